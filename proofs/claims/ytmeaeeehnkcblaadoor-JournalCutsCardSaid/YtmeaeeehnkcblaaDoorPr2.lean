/-
  Texts of the proof, joined: JrSmall, JrCur, JrCheck, JrRCheck, JrEnc, JrSm, REq, SymCall, SymShort.
-/
import Derived.Test.YtmeaeeehnkcblaaDoorPr1
import Derived.Test.YtmeaeeehnkcblaaDoorProg
import Derived.Laws.BytesArg
set_option linter.unusedVariables false
set_option linter.unusedSimpArgs false
namespace Go.Proofs.YtmeaeeehnkcblaaDoor
open Go.RowKit
set_option maxRecDepth 20000
def Rs.cells (r : Rs) : List Value := [.int .i64 r.v, .int .i64 r.run, .int .i64 r.num, .int .i64 r.at_, .int .u32 r.dst, .int .i64 r.proto, .int .i64 r.flow, .int .i64 r.ttl, .bool r.ans, .bool r.dbl, .int .i64 r.back, .int .u32 r.src, .int .i64 r.kind, .int .i64 r.code, .int .i64 r.left, .int .i64 r.id, .int .i64 r.quo]
theorem fR0 (g : Nat) (w : World) : (Instr.fieldAt 27 (.pointer (some ⟨g, 0, none⟩)) 0).run Tryd.prog w = .ok (.pointer (some ⟨g, 0, none⟩)) w := by kernel_rfl
theorem fR1 (g : Nat) (w : World) : (Instr.fieldAt 27 (.pointer (some ⟨g, 0, none⟩)) 1).run Tryd.prog w = .ok (.pointer (some ⟨g, 1, none⟩)) w := by kernel_rfl
theorem fR2 (g : Nat) (w : World) : (Instr.fieldAt 27 (.pointer (some ⟨g, 0, none⟩)) 2).run Tryd.prog w = .ok (.pointer (some ⟨g, 2, none⟩)) w := by kernel_rfl
theorem fR3 (g : Nat) (w : World) : (Instr.fieldAt 27 (.pointer (some ⟨g, 0, none⟩)) 3).run Tryd.prog w = .ok (.pointer (some ⟨g, 3, none⟩)) w := by kernel_rfl
theorem fR4 (g : Nat) (w : World) : (Instr.fieldAt 27 (.pointer (some ⟨g, 0, none⟩)) 4).run Tryd.prog w = .ok (.pointer (some ⟨g, 4, none⟩)) w := by kernel_rfl
theorem fR5 (g : Nat) (w : World) : (Instr.fieldAt 27 (.pointer (some ⟨g, 0, none⟩)) 5).run Tryd.prog w = .ok (.pointer (some ⟨g, 5, none⟩)) w := by kernel_rfl
theorem fR6 (g : Nat) (w : World) : (Instr.fieldAt 27 (.pointer (some ⟨g, 0, none⟩)) 6).run Tryd.prog w = .ok (.pointer (some ⟨g, 6, none⟩)) w := by kernel_rfl
theorem fR7 (g : Nat) (w : World) : (Instr.fieldAt 27 (.pointer (some ⟨g, 0, none⟩)) 7).run Tryd.prog w = .ok (.pointer (some ⟨g, 7, none⟩)) w := by kernel_rfl
theorem fR8 (g : Nat) (w : World) : (Instr.fieldAt 27 (.pointer (some ⟨g, 0, none⟩)) 8).run Tryd.prog w = .ok (.pointer (some ⟨g, 8, none⟩)) w := by kernel_rfl
theorem fR9 (g : Nat) (w : World) : (Instr.fieldAt 27 (.pointer (some ⟨g, 0, none⟩)) 9).run Tryd.prog w = .ok (.pointer (some ⟨g, 9, none⟩)) w := by kernel_rfl
theorem fR10 (g : Nat) (w : World) : (Instr.fieldAt 27 (.pointer (some ⟨g, 0, none⟩)) 10).run Tryd.prog w = .ok (.pointer (some ⟨g, 10, none⟩)) w := by kernel_rfl
theorem fR11 (g : Nat) (w : World) : (Instr.fieldAt 27 (.pointer (some ⟨g, 0, none⟩)) 11).run Tryd.prog w = .ok (.pointer (some ⟨g, 11, none⟩)) w := by kernel_rfl
theorem fA0 (g : Nat) (w : World) : (Instr.fieldAt 25 (.pointer (some ⟨g, 0, none⟩)) 0).run Tryd.prog w = .ok (.pointer (some ⟨g, 0, none⟩)) w := by kernel_rfl
theorem fA1 (g : Nat) (w : World) : (Instr.fieldAt 25 (.pointer (some ⟨g, 0, none⟩)) 1).run Tryd.prog w = .ok (.pointer (some ⟨g, 1, none⟩)) w := by kernel_rfl
theorem fA2 (g : Nat) (w : World) : (Instr.fieldAt 25 (.pointer (some ⟨g, 0, none⟩)) 2).run Tryd.prog w = .ok (.pointer (some ⟨g, 2, none⟩)) w := by kernel_rfl
theorem fA3 (g : Nat) (w : World) : (Instr.fieldAt 25 (.pointer (some ⟨g, 0, none⟩)) 3).run Tryd.prog w = .ok (.pointer (some ⟨g, 3, none⟩)) w := by kernel_rfl
theorem fA4 (g : Nat) (w : World) : (Instr.fieldAt 25 (.pointer (some ⟨g, 0, none⟩)) 4).run Tryd.prog w = .ok (.pointer (some ⟨g, 4, none⟩)) w := by kernel_rfl
theorem fA5 (g : Nat) (w : World) : (Instr.fieldAt 25 (.pointer (some ⟨g, 0, none⟩)) 5).run Tryd.prog w = .ok (.pointer (some ⟨g, 5, none⟩)) w := by kernel_rfl
theorem agI (w : World) : (isAgg 3).run Tryd.prog w = .ok false w := rfl
theorem agB (w : World) : (isAgg 4).run Tryd.prog w = .ok false w := rfl
theorem agU (w : World) : (isAgg 23).run Tryd.prog w = .ok false w := rfl
theorem agA (w : World) : (isAgg 25).run Tryd.prog w = .ok true w := rfl
theorem szA (w : World) : (sizeOf 25).run Tryd.prog w = .ok 6 w := rfl
theorem zeroA (w : World) : (zeroValue 25).run Tryd.prog w = .ok (.agg #[.int .u32 0, .int .i64 0, .int .i64 0, .int .i64 0, .int .i64 0, .int .i64 0]) w := rfl
theorem buildA (w : World) : (Instr.build 25 #[]).run Tryd.prog w = .ok (.agg #[.int .u32 0, .int .i64 0, .int .i64 0, .int .i64 0, .int .i64 0, .int .i64 0]) w := by kernel_rfl
theorem oneA (src kind code left id quo : Int) : ∀ u ∈ [Value.int .u32 src, .int .i64 kind, .int .i64 code, .int .i64 left, .int .i64 id, .int .i64 quo], u.oneCell' = true := by
 intro u hu
 simp only [List.mem_cons, List.not_mem_nil, or_false] at hu
 rcases hu with rfl | rfl | rfl | rfl | rfl | rfl <;> rfl
theorem within_any (n m : Int) (w : World) :
  Calls Tryd.prog 46 #[.int .i64 n, .int .i64 m] w fun e w' => e = .returned (.bool (decide (0 ≤ n ∧ n ≤ m))) ∧ Below w.heap.size w w' := by
 refine begin_ (vs := [.int .i64 n, .int .i64 m]) Tryd.func46 rfl rfl rfl ?_ (Pm.start w)
 refine TC.seq_ (TC.region ?_)
 refine TL.val rfl rfl rfl (gives_assign rfl rfl) ?_
 refine TL.end_ (TX.then_ (TC.seq_ (TC.region ?_)))
 refine TL.val rfl rfl rfl (gives_move rfl rfl) ?_
 refine TL.vsplit rfl rfl rfl (gives_bin rfl rfl rfl (fun w => bin_geq w)) (fun h6 => ?_) (fun h6 => ?_)
 ·iterate 6 (first | refine TL.on rfl rfl rfl ?_ | refine TL.val rfl rfl rfl (gives_move rfl rfl) ?_)
  refine TL.vsplit rfl rfl rfl (gives_bin rfl rfl rfl (fun w => bin_leq w)) (fun h10 => ?_) (fun h10 => ?_)
  ·refine TL.val rfl rfl rfl (gives_pick rfl rfl rfl) ?_
   refine TL.val rfl rfl rfl (gives_assign rfl rfl) ?_
   refine TL.end_ (TX.then_ (TC.ret_ ?_))
   exact ret_tmp Tryd.results46 rfl (fun w1 hw => ⟨bool_t (by simp only [decide_eq_true_eq, decide_eq_false_iff_not] at *; omega), hw.bel⟩)
  ·refine TL.val rfl rfl rfl (gives_pick rfl rfl rfl) ?_
   refine TL.val rfl rfl rfl (gives_assign rfl rfl) ?_
   refine TL.end_ (TX.then_ (TC.ret_ ?_))
   exact ret_tmp Tryd.results46 rfl (fun w1 hw => ⟨bool_f (by simp only [decide_eq_true_eq, decide_eq_false_iff_not] at *; omega), hw.bel⟩)
 ·iterate 6 (first | refine TL.off rfl rfl rfl rfl rfl rfl ?_ | refine TL.val rfl rfl rfl (gives_move rfl rfl) ?_ | refine TL.val rfl rfl rfl (gives_pick rfl rfl rfl) ?_ | refine TL.val rfl rfl rfl (gives_assign rfl rfl) ?_)
  refine TL.end_ (TX.then_ (TC.ret_ ?_))
  exact ret_tmp Tryd.results46 rfl (fun w1 hw => ⟨bool_f (by simp only [decide_eq_true_eq, decide_eq_false_iff_not] at *; omega), hw.bel⟩)
theorem nmWithin : (Tryd.f46.name == "runtime.NumGoroutine") = false := by decide
theorem bdWithin : Tryd.f46.body.isNone = false := rfl
theorem run_any (v r : Int) (w : World) :
  Calls Tryd.prog 45 #[.int .i64 v, .int .i64 r] w fun e w' => e = .returned (.bool (decide (0 ≤ v ∧ v ≤ 15 ∧ 0 ≤ r ∧ r ≤ 63))) ∧ Below w.heap.size w w' := by
 refine begin_ (vs := [.int .i64 v, .int .i64 r]) Tryd.func45 rfl rfl rfl ?_ (Pm.start w)
 refine TC.seq_ (TC.region ?_)
 refine TL.val rfl rfl rfl (gives_assign rfl rfl) ?_
 refine TL.end_ (TX.then_ (TC.seq_ (TC.region ?_)))
 refine TL.val rfl rfl rfl (gives_move rfl rfl) ?_
 refine TL.callsplit rfl rfl rfl rfl rfl Tryd.func46 nmWithin bdWithin (fun w1 hw => within_any (v) (15) w1) (fun h6 => ?_) (fun h6 => ?_)
 ·iterate 4 (first | refine TL.on rfl rfl rfl ?_ | refine TL.val rfl rfl rfl (gives_move rfl rfl) ?_)
  refine TL.callsplit rfl rfl rfl rfl rfl Tryd.func46 nmWithin bdWithin (fun w1 hw => within_any (r) (63) w1) (fun h9 => ?_) (fun h9 => ?_)
  ·refine TL.val rfl rfl rfl (gives_pick rfl rfl rfl) ?_
   refine TL.val rfl rfl rfl (gives_assign rfl rfl) ?_
   refine TL.end_ (TX.then_ (TC.ret_ ?_))
   exact ret_tmp Tryd.results45 rfl (fun w1 hw => ⟨bool_t (by simp only [decide_eq_true_eq, decide_eq_false_iff_not] at *; omega), hw.bel⟩)
  ·refine TL.val rfl rfl rfl (gives_pick rfl rfl rfl) ?_
   refine TL.val rfl rfl rfl (gives_assign rfl rfl) ?_
   refine TL.end_ (TX.then_ (TC.ret_ ?_))
   exact ret_tmp Tryd.results45 rfl (fun w1 hw => ⟨bool_f (by simp only [decide_eq_true_eq, decide_eq_false_iff_not] at *; omega), hw.bel⟩)
 ·iterate 5 (first | refine TL.off rfl rfl rfl rfl rfl rfl ?_ | refine TL.val rfl rfl rfl (gives_move rfl rfl) ?_ | refine TL.val rfl rfl rfl (gives_pick rfl rfl rfl) ?_ | refine TL.val rfl rfl rfl (gives_assign rfl rfl) ?_)
  refine TL.end_ (TX.then_ (TC.ret_ ?_))
  exact ret_tmp Tryd.results45 rfl (fun w1 hw => ⟨bool_f (by simp only [decide_eq_true_eq, decide_eq_false_iff_not] at *; omega), hw.bel⟩)
theorem nmRun : (Tryd.f45.name == "runtime.NumGoroutine") = false := by decide
theorem bdRun : Tryd.f45.body.isNone = false := rfl
theorem ident_any (v r : Int) (w : World) :
  Calls Tryd.prog 47 #[.int .i64 v, .int .i64 r] w fun e w' => e = .returned (.bool (decide (0 ≤ v ∧ v ≤ 15 ∧ 0 ≤ r ∧ r ≤ 63))) ∧ Below w.heap.size w w' := by
 refine begin_ (vs := [.int .i64 v, .int .i64 r]) Tryd.func47 rfl rfl rfl ?_ (Pm.start w)
 refine TC.seq_ (TC.region ?_)
 refine TL.val rfl rfl rfl (gives_assign rfl rfl) ?_
 refine TL.end_ (TX.then_ (TC.seq_ (TC.region ?_)))
 refine TL.val rfl rfl rfl (gives_move rfl rfl) ?_
 refine TL.vsplit rfl rfl rfl (gives_bin rfl rfl rfl (fun w => bin_geq w)) (fun h6 => ?_) (fun h6 => ?_)
 ·iterate 4 (first | refine TL.on rfl rfl rfl ?_ | refine TL.val rfl rfl rfl (gives_move rfl rfl) ?_)
  refine TL.vsplit rfl rfl rfl (gives_bin rfl rfl rfl (fun w => bin_lss w)) (fun h9 => ?_) (fun h9 => ?_)
  ·iterate 5 (first | refine TL.on rfl rfl rfl ?_ | refine TL.val rfl rfl rfl (gives_move rfl rfl) ?_ | refine TL.val rfl rfl rfl (gives_pick rfl rfl rfl) ?_)
   refine TL.vsplit rfl rfl rfl (gives_bin rfl rfl rfl (fun w => bin_geq w)) (fun h13 => ?_) (fun h13 => ?_)
   ·iterate 5 (first | refine TL.on rfl rfl rfl ?_ | refine TL.val rfl rfl rfl (gives_move rfl rfl) ?_ | refine TL.val rfl rfl rfl (gives_pick rfl rfl rfl) ?_)
    refine TL.vsplit rfl rfl rfl (gives_bin rfl rfl rfl (fun w => bin_lss w)) (fun h17 => ?_) (fun h17 => ?_)
    ·refine TL.val rfl rfl rfl (gives_pick rfl rfl rfl) ?_
     refine TL.val rfl rfl rfl (gives_assign rfl rfl) ?_
     refine TL.end_ (TX.then_ (TC.ret_ ?_))
     exact ret_tmp Tryd.results47 rfl (fun w1 hw => ⟨bool_t (by simp only [decide_eq_true_eq, decide_eq_false_iff_not] at *; omega), hw.bel⟩)
    ·refine TL.val rfl rfl rfl (gives_pick rfl rfl rfl) ?_
     refine TL.val rfl rfl rfl (gives_assign rfl rfl) ?_
     refine TL.end_ (TX.then_ (TC.ret_ ?_))
     exact ret_tmp Tryd.results47 rfl (fun w1 hw => ⟨bool_f (by simp only [decide_eq_true_eq, decide_eq_false_iff_not] at *; omega), hw.bel⟩)
   ·iterate 6 (first | refine TL.off rfl rfl rfl rfl rfl rfl ?_ | refine TL.val rfl rfl rfl (gives_pick rfl rfl rfl) ?_ | refine TL.val rfl rfl rfl (gives_move rfl rfl) ?_ | refine TL.val rfl rfl rfl (gives_assign rfl rfl) ?_)
    refine TL.end_ (TX.then_ (TC.ret_ ?_))
    exact ret_tmp Tryd.results47 rfl (fun w1 hw => ⟨bool_f (by simp only [decide_eq_true_eq, decide_eq_false_iff_not] at *; omega), hw.bel⟩)
  ·iterate 10 (first | refine TL.off rfl rfl rfl rfl rfl rfl ?_ | refine TL.val rfl rfl rfl (gives_pick rfl rfl rfl) ?_ | refine TL.val rfl rfl rfl (gives_move rfl rfl) ?_ | refine TL.val rfl rfl rfl (gives_assign rfl rfl) ?_)
   refine TL.end_ (TX.then_ (TC.ret_ ?_))
   exact ret_tmp Tryd.results47 rfl (fun w1 hw => ⟨bool_f (by simp only [decide_eq_true_eq, decide_eq_false_iff_not] at *; omega), hw.bel⟩)
 ·iterate 13 (first | refine TL.off rfl rfl rfl rfl rfl rfl ?_ | refine TL.val rfl rfl rfl (gives_move rfl rfl) ?_ | refine TL.val rfl rfl rfl (gives_pick rfl rfl rfl) ?_ | refine TL.val rfl rfl rfl (gives_assign rfl rfl) ?_)
  refine TL.end_ (TX.then_ (TC.ret_ ?_))
  exact ret_tmp Tryd.results47 rfl (fun w1 hw => ⟨bool_f (by simp only [decide_eq_true_eq, decide_eq_false_iff_not] at *; omega), hw.bel⟩)
theorem nmIdent : (Tryd.f47.name == "runtime.NumGoroutine") = false := by decide
theorem bdIdent : Tryd.f47.body.isNone = false := rfl
theorem octet_any (n : Int) (w : World) :
  Calls Tryd.prog 48 #[.int .i64 n] w fun e w' => e = .returned (.bool (decide (0 ≤ n ∧ n ≤ 255))) ∧ Below w.heap.size w w' := by
 refine begin_ (vs := [.int .i64 n]) Tryd.func48 rfl rfl rfl ?_ (Pm.start w)
 refine TC.seq_ (TC.region ?_)
 refine TL.val rfl rfl rfl (gives_assign rfl rfl) ?_
 refine TL.end_ (TX.then_ (TC.seq_ (TC.region ?_)))
 refine TL.val rfl rfl rfl (gives_move rfl rfl) ?_
 refine TL.vsplit rfl rfl rfl (gives_bin rfl rfl rfl (fun w => bin_geq w)) (fun h4 => ?_) (fun h4 => ?_)
 ·iterate 4 (first | refine TL.on rfl rfl rfl ?_ | refine TL.val rfl rfl rfl (gives_move rfl rfl) ?_)
  refine TL.vsplit rfl rfl rfl (gives_bin rfl rfl rfl (fun w => bin_leq w)) (fun h7 => ?_) (fun h7 => ?_)
  ·refine TL.val rfl rfl rfl (gives_pick rfl rfl rfl) ?_
   refine TL.val rfl rfl rfl (gives_assign rfl rfl) ?_
   refine TL.end_ (TX.then_ (TC.ret_ ?_))
   exact ret_tmp Tryd.results48 rfl (fun w1 hw => ⟨bool_t (by simp only [decide_eq_true_eq, decide_eq_false_iff_not] at *; omega), hw.bel⟩)
  ·refine TL.val rfl rfl rfl (gives_pick rfl rfl rfl) ?_
   refine TL.val rfl rfl rfl (gives_assign rfl rfl) ?_
   refine TL.end_ (TX.then_ (TC.ret_ ?_))
   exact ret_tmp Tryd.results48 rfl (fun w1 hw => ⟨bool_f (by simp only [decide_eq_true_eq, decide_eq_false_iff_not] at *; omega), hw.bel⟩)
 ·iterate 5 (first | refine TL.off rfl rfl rfl rfl rfl rfl ?_ | refine TL.val rfl rfl rfl (gives_move rfl rfl) ?_ | refine TL.val rfl rfl rfl (gives_pick rfl rfl rfl) ?_ | refine TL.val rfl rfl rfl (gives_assign rfl rfl) ?_)
  refine TL.end_ (TX.then_ (TC.ret_ ?_))
  exact ret_tmp Tryd.results48 rfl (fun w1 hw => ⟨bool_f (by simp only [decide_eq_true_eq, decide_eq_false_iff_not] at *; omega), hw.bel⟩)
theorem nmOctet : (Tryd.f48.name == "runtime.NumGoroutine") = false := by decide
theorem bdOctet : Tryd.f48.body.isNone = false := rfl
end Go.Proofs.YtmeaeeehnkcblaaDoor

namespace Go.Proofs.YtmeaeeehnkcblaaDoor
open Go.RowKit
set_option maxRecDepth 20000
theorem agW (w : World) : (isAgg 72).run Tryd.prog w = .ok false w := rfl
theorem agS (w : World) : (isAgg 28).run Tryd.prog w = .ok false w := rfl
theorem agE (w : World) : (isAgg 34).run Tryd.prog w = .ok false w := rfl
theorem one_sl {A : Option Addr} {n c : Nat} : ∀ u ∈ [Value.slice A n c], u.oneCell' = true := by
 intro u hu
 rw [List.mem_singleton] at hu
 subst hu; rfl
theorem one_i {k : IntKind} {x : Int} : ∀ u ∈ [Value.int k x], u.oneCell' = true := by
 intro u hu
 rw [List.mem_singleton] at hu
 subst hu; rfl
theorem fC0 (g : Nat) (w : World) : (Instr.fieldAt 82 (.pointer (some ⟨g, 0, none⟩)) 0).run Tryd.prog w = .ok (.pointer (some ⟨g, 0, none⟩)) w := by kernel_rfl
theorem fC1 (g : Nat) (w : World) : (Instr.fieldAt 82 (.pointer (some ⟨g, 0, none⟩)) 1).run Tryd.prog w = .ok (.pointer (some ⟨g, 1, none⟩)) w := by kernel_rfl
theorem fC2 (g : Nat) (w : World) : (Instr.fieldAt 82 (.pointer (some ⟨g, 0, none⟩)) 2).run Tryd.prog w = .ok (.pointer (some ⟨g, 2, none⟩)) w := by kernel_rfl
theorem nmPut : (Tryd.f63.name == "runtime.NumGoroutine") = false := by decide
theorem bdPut : Tryd.f63.body.isNone = false := rfl
theorem wput (g : Nat) (A : Option Addr) (n c : Nat) (l : List Int) (x : Int) (k : Nat) (w : World) (hg : Blk w g 72 #[.slice A n c]) (hb : Byt w w.heap.size A n l) (hne : 0 < n → ∀ ad, A = some ad → ad.block ≠ g) (hlim : n ≤ 100000000) (hx0 : 0 ≤ x) (hx1 : x < 256 ^ k) (hk1 : 1 ≤ k) (hk7 : k ≤ 7) :
  Calls Tryd.prog 43 #[.pointer (some ⟨g, 0, none⟩), .int .i64 x, .int .i64 (k : Int)] w fun e w' => ∃ y : {p : Option Addr × Nat // n + k ≤ p.2 ∧ p.2 ≤ maxLen}, e = .returned (.tuple #[]) ∧ Chg g 72 [.slice y.1.1 (n + k) y.1.2] w [.row (.slice y.1.1 (n + k) y.1.2) 5 1 (n + k) (bv (l ++ enc x k))] w' := by
 have hsrc : ∀ (w1 : World) (L : List Pc), Pm ⟨w, g⟩ L w1 → (∀ q ∈ oths g w, q ∈ L) → Byt w1 w1.heap.size A n l := fun w1 L h hs => byt_grown' hb hne (h.kept hs)
 refine begin_ (vs := [.pointer (some ⟨g, 0, none⟩), .int .i64 x, .int .i64 (k : Int)]) (I := Pm ⟨w, g⟩ (.blk g 72 [.slice A n c] :: oths g w)) Tryd.func43 rfl rfl rfl ?_ (Pm.atBlk hg)
 refine TC.seq_ (TC.region ?_)
 refine TL.val rfl rfl rfl (gives_move rfl rfl) ?_
 refine TL.val rfl rfl rfl (gives_nilCheck rfl rfl) ?_
 refine TL.val rfl rfl rfl (pm_load (k := 0) (i := 0) rfl rfl agW rfl rfl) ?_
 refine TL.val rfl rfl rfl (gives_move rfl rfl) ?_
 refine TL.val rfl rfl rfl (gives_move rfl rfl) ?_
 refine TL.pcallPair (n := n + k) (ys := bv (l ++ enc x k)) (v := .int .i64 0) rfl rfl rfl rfl rfl Tryd.func63 nmPut bdPut (fun w1 hw => jput A n c l x k w1 (hsrc w1 _ hw (fun q hq => by simp [hq])) hlim hx0 hx1 hk1 hk7) (fun A1 c1 hA11 hA12 => ?_)
 iterate 5 (first | refine TL.val rfl rfl rfl (gives_assign rfl rfl) ?_ | refine TL.val rfl rfl rfl (gives_extract rfl rfl rfl) ?_ | refine TL.val rfl rfl rfl (gives_move rfl rfl) ?_)
 refine TL.end_ (TX.then_ (TC.region ?_))
 refine TL.val rfl rfl rfl (gives_move rfl rfl) ?_
 refine TL.val rfl rfl rfl (gives_move rfl rfl) ?_
 refine TL.val rfl rfl rfl (gives_nilCheck rfl rfl) ?_
 refine TL.pstore (k := 1) (vs := [.slice A1 (n + k) c1]) rfl rfl rfl rfl rfl rfl rfl (fun w => rfl) one_sl (Nat.le_refl 1) (L' := .row (.slice A1 (n + k) c1) 5 1 (n + k) (bv (l ++ enc x k)) :: .blk g 72 [.slice A1 (n + k) c1] :: oths g w) rfl ?_
 refine TL.end_ ?_
 exact end_none Tryd.results43 (fun w1 hw => ⟨⟨(A1, c1), hA11, hA12⟩, rfl, Pm.chg [_] hw rfl⟩)
theorem cnext (g : Nat) (A : Option Addr) (n c : Nat) (l : List Int) (p k : Nat) (e0 : Int) (w : World) (hg : Blk w g 82 #[.slice A n c, .int .i64 (p : Int), .int .i64 e0]) (hb : Byt w w.heap.size A n l) (hne : 0 < n → ∀ ad, A = some ad → ad.block ≠ g) (hnc : n ≤ c) (hlim : n ≤ 140737488355328) (hk1 : 1 ≤ k) (hk7 : k ≤ 7) (hp9 : p ≤ 1000000000) :
  Calls Tryd.prog 49 #[.pointer (some ⟨g, 0, none⟩), .int .i64 (k : Int)] w fun e w' => ∃ y : Unit, e = .returned (.int .i64 (getJ l p k)) ∧ Chg g 82 [.slice A n c, .int .i64 (((p + k : Nat) : Int)), .int .i64 (if e0 = 0 then getJE l p k else e0)] w [] w' := by
 have hsrc : ∀ (w1 : World) (L : List Pc), Pm ⟨w, g⟩ L w1 → (∀ q ∈ oths g w, q ∈ L) → Byt w1 w1.heap.size A n l := fun w1 L h hs => byt_grown' hb hne (h.kept hs)
 refine begin_ (vs := [.pointer (some ⟨g, 0, none⟩), .int .i64 (k : Int)]) (I := Pm ⟨w, g⟩ (.blk g 82 [.slice A n c, .int .i64 ((p : Int)), .int .i64 (e0)] :: oths g w)) Tryd.func49 rfl rfl rfl ?_ (Pm.atBlk hg)
 refine TC.seq_ (TC.region ?_)
 refine TL.val rfl rfl rfl (gives_assign rfl rfl) ?_
 refine TL.end_ (TX.then_ (TC.seq_ ?_))
 refine TC.quiet_ (E' := ?_) (by kernel_rfl) (by kernel_rfl) (fun w hw => hw.drawn _) ?_ ?_
 rotate_left
 ·refine TQ.val rfl rfl rfl (gives_move rfl rfl) ?_
  refine TQ.val rfl rfl rfl (gives_nilCheck rfl rfl) ?_
  refine TQ.val rfl rfl rfl (gives_field rfl rfl (fun w => fC0 _ w)) ?_
  refine TQ.val rfl rfl rfl (pm_load (k := 0) (i := 0) rfl rfl agS rfl rfl) ?_
  refine TQ.val rfl rfl rfl (gives_move rfl rfl) ?_
  refine TQ.val rfl rfl rfl (gives_nilCheck rfl rfl) ?_
  refine TQ.val rfl rfl rfl (gives_field rfl rfl (fun w => fC1 _ w)) ?_
  refine TQ.val rfl rfl rfl (pm_load (k := 0) (i := 1) rfl rfl agI rfl rfl) ?_
  refine TQ.val rfl rfl rfl (gives_move rfl rfl) ?_
  refine TQ.call (v := .tuple #[.int .i64 (getJ l p k), .int .i64 (getJE l p k)]) rfl rfl rfl rfl rfl Tryd.func65 nmGet bdGet (fun w1 hw => (jget A n c l p k w1 (hsrc w1 _ hw (fun q hq => by simp [hq])) hnc hlim hk1 hk7 hp9).mono fun en w2 ⟨h1, h2⟩ => ⟨h1, hw.below h2⟩) ?_
  refine TQ.val rfl rfl rfl (gives_move rfl rfl) ?_
  refine TQ.val rfl rfl rfl (gives_extract rfl rfl rfl) ?_
  refine TQ.val rfl rfl rfl (gives_extract rfl rfl rfl) ?_
  refine TQ.val rfl rfl rfl (gives_assign rfl rfl) ?_
  refine TQ.val rfl rfl rfl (gives_assign rfl rfl) ?_
  exact TQ.end_
 refine TX.then_ (TC.seq_ (TC.seq_ (TC.region ?_)))
 refine TL.val rfl rfl rfl (gives_move rfl rfl) ?_
 refine TL.val rfl rfl rfl (gives_nilCheck rfl rfl) ?_
 refine TL.val rfl rfl rfl (gives_field rfl rfl (fun w => fC2 _ w)) ?_
 refine TL.val rfl rfl rfl (pm_load (k := 0) (i := 2) rfl rfl agE rfl rfl) ?_
 refine TL.vsplit rfl rfl rfl (gives_bin rfl rfl rfl (fun w => bin_eql w)) (fun h24 => ?_) (fun h24 => ?_)
 ·refine TL.end_ (TX.then_ (TC.condT rfl (TC.region ?_)))
  refine TL.val rfl rfl rfl (gives_move rfl rfl) ?_
  refine TL.val rfl rfl rfl (gives_move rfl rfl) ?_
  refine TL.val rfl rfl rfl (gives_nilCheck rfl rfl) ?_
  refine TL.val rfl rfl rfl (gives_field rfl rfl (fun w => fC2 _ w)) ?_
  refine TL.pstore (k := 0) (vs := [.int .i64 (getJE l p k)]) rfl rfl rfl rfl rfl rfl rfl (fun w => rfl) one_i (by show 2 + 1 ≤ 3; omega) (L' := .blk g 82 [.slice A n c, .int .i64 ((p : Int)), .int .i64 (getJE l p k)] :: oths g w) rfl ?_
  refine TL.end_ (TX.then_ (TC.seq_ (TC.region ?_)))
  refine TL.val rfl rfl rfl (gives_move rfl rfl) ?_
  refine TL.val rfl rfl rfl (gives_nilCheck rfl rfl) ?_
  refine TL.val rfl rfl rfl (gives_field rfl rfl (fun w => fC1 _ w)) ?_
  refine TL.val rfl rfl rfl (pm_load (k := 0) (i := 1) rfl rfl agI rfl rfl) ?_
  refine TL.val rfl rfl rfl (gives_move rfl rfl) ?_
  refine TL.val rfl rfl rfl (gives_bin rfl rfl rfl (fun w => bin_add_ (r := ((p + k : Nat) : Int)) (by simp only [IntKind.wrap_i64]; omega) w)) ?_
  refine TL.val rfl rfl rfl (gives_nilCheck rfl rfl) ?_
  refine TL.val rfl rfl rfl (gives_field rfl rfl (fun w => fC1 _ w)) ?_
  refine TL.pstore (k := 0) (vs := [.int .i64 ((p + k : Nat) : Int)]) rfl rfl rfl rfl rfl rfl rfl (fun w => rfl) one_i (by show 1 + 1 ≤ 3; omega) rfl ?_
  refine TL.end_ (TX.then_ (TC.seq_ (TC.region ?_)))
  refine TL.val rfl rfl rfl (gives_move rfl rfl) ?_
  refine TL.val rfl rfl rfl (gives_assign rfl rfl) ?_
  refine TL.end_ (TX.then_ (TC.ret_ ?_))
  exact ret_tmp Tryd.results49 rfl (fun w1 hw => ⟨(), rfl, by rw [if_pos (of_decide_eq_true h24)]; exact Pm.chg [] hw rfl⟩)
 ·refine TL.end_ (TX.then_ (TC.condF rfl (TC.skip_ (TX.then_ (TC.seq_ (TC.region ?_))))))
  refine TL.val rfl rfl rfl (gives_move rfl rfl) ?_
  refine TL.val rfl rfl rfl (gives_nilCheck rfl rfl) ?_
  refine TL.val rfl rfl rfl (gives_field rfl rfl (fun w => fC1 _ w)) ?_
  refine TL.val rfl rfl rfl (pm_load (k := 0) (i := 1) rfl rfl agI rfl rfl) ?_
  refine TL.val rfl rfl rfl (gives_move rfl rfl) ?_
  refine TL.val rfl rfl rfl (gives_bin rfl rfl rfl (fun w => bin_add_ (r := ((p + k : Nat) : Int)) (by simp only [IntKind.wrap_i64]; omega) w)) ?_
  refine TL.val rfl rfl rfl (gives_nilCheck rfl rfl) ?_
  refine TL.val rfl rfl rfl (gives_field rfl rfl (fun w => fC1 _ w)) ?_
  refine TL.pstore (k := 0) (vs := [.int .i64 ((p + k : Nat) : Int)]) rfl rfl rfl rfl rfl rfl rfl (fun w => rfl) one_i (by show 1 + 1 ≤ 3; omega) rfl ?_
  refine TL.end_ (TX.then_ (TC.seq_ (TC.region ?_)))
  refine TL.val rfl rfl rfl (gives_move rfl rfl) ?_
  refine TL.val rfl rfl rfl (gives_assign rfl rfl) ?_
  refine TL.end_ (TX.then_ (TC.ret_ ?_))
  exact ret_tmp Tryd.results49 rfl (fun w1 hw => ⟨(), rfl, by rw [if_neg (of_decide_eq_false h24)]; exact Pm.chg [] hw rfl⟩)
end Go.Proofs.YtmeaeeehnkcblaaDoor

namespace Go.Proofs.YtmeaeeehnkcblaaDoor
open Go.RowKit
set_option maxRecDepth 20000
set_option maxHeartbeats 2000000 in
theorem check_any_ff (v run num at_ dst proto flow ttl back src kind code left id quo : Int) (w : World) :
  Calls Tryd.prog 14 #[.agg #[.int .i64 v, .int .i64 run, .int .i64 num, .int .i64 at_, .int .u32 dst, .int .i64 proto, .int .i64 flow, .int .i64 ttl, .bool false, .bool false, .int .i64 back, .int .u32 src, .int .i64 kind, .int .i64 code, .int .i64 left, .int .i64 id, .int .i64 quo]] w fun e w' => e = .returned (.int .i64 (chkR ⟨v, run, num, at_, dst, proto, flow, ttl, false, false, back, src, kind, code, left, id, quo⟩)) ∧ Below w.heap.size w w' := by
 refine begin_ (vs := [.agg #[.int .i64 v, .int .i64 run, .int .i64 num, .int .i64 at_, .int .u32 dst, .int .i64 proto, .int .i64 flow, .int .i64 ttl, .bool false, .bool false, .int .i64 back, .int .u32 src, .int .i64 kind, .int .i64 code, .int .i64 left, .int .i64 id, .int .i64 quo]]) Tryd.func14 rfl rfl rfl ?_ (Pm.start w)
 refine TC.seq_ (TC.region ?_)
 refine TL.pnew rfl rfl rfl (exec_box (cs := [.int .i64 v, .int .i64 run, .int .i64 num, .int .i64 at_, .int .u32 dst, .int .i64 proto, .int .i64 flow, .int .i64 ttl, .bool false, .bool false, .int .i64 back, .int .u32 src, .int .i64 kind, .int .i64 code, .int .i64 left, .int .i64 id, .int .i64 quo]) rfl rfl rfl) (fun g1 => ?_)
 refine TL.val rfl rfl rfl (gives_assign rfl rfl) ?_
 refine TL.end_ (TX.then_ (TC.seq_ (TC.region ?_)))
 refine TL.val rfl rfl rfl (gives_field rfl rfl (fun w => fR11 _ w)) ?_
 refine TL.val rfl rfl rfl (pm_loadAgg (k := 0) (n := 6) rfl rfl agA szA rfl (Nat.le_refl 17)) ?_
 refine TL.pnew rfl rfl rfl (exec_alloc (cs := [.int .u32 0, .int .i64 0, .int .i64 0, .int .i64 0, .int .i64 0, .int .i64 0]) rfl zeroA rfl) (fun g3 => ?_)
 refine TL.pstore (k := 0) (vs := [.int .u32 src, .int .i64 kind, .int .i64 code, .int .i64 left, .int .i64 id, .int .i64 quo]) rfl rfl rfl rfl rfl rfl rfl szA (oneA _ _ _ _ _ _) (Nat.le_refl 6) (L' := [.blk g3 25 [.int .u32 src, .int .i64 kind, .int .i64 code, .int .i64 left, .int .i64 id, .int .i64 quo], .blk g1 27 [.int .i64 v, .int .i64 run, .int .i64 num, .int .i64 at_, .int .u32 dst, .int .i64 proto, .int .i64 flow, .int .i64 ttl, .bool false, .bool false, .int .i64 back, .int .u32 src, .int .i64 kind, .int .i64 code, .int .i64 left, .int .i64 id, .int .i64 quo]]) rfl ?_
 refine TL.end_ (TX.then_ (TC.seq_ (TC.block (TC.seq_ (TC.seq_ (TC.region ?_))))))
 refine TL.val rfl rfl rfl (gives_field rfl rfl (fun w => fR0 _ w)) ?_
 refine TL.val rfl rfl rfl (pm_load (k := 1) rfl rfl agI rfl rfl) ?_
 refine TL.val rfl rfl rfl (gives_field rfl rfl (fun w => fR1 _ w)) ?_
 refine TL.val rfl rfl rfl (pm_load (k := 1) rfl rfl agI rfl rfl) ?_
 refine TL.callsplit rfl rfl rfl rfl rfl Tryd.func45 nmRun bdRun (fun w1 hw => run_any v run w1) (fun h11 => ?_) (fun h11 => ?_)
 refine TL.val rfl rfl rfl (gives_boolnot rfl rfl) ?_
 refine TL.val rfl rfl rfl (gives_assign rfl rfl) ?_
 refine TL.end_ (TX.then_ (TC.condF rfl (TC.seq_ (TC.region ?_))))
 refine TL.val rfl rfl rfl (gives_field rfl rfl (fun w => fR2 _ w)) ?_
 refine TL.val rfl rfl rfl (pm_load (k := 1) rfl rfl agI rfl rfl) ?_
 refine TL.callsplit rfl rfl rfl rfl rfl Tryd.func46 nmWithin bdWithin (fun w1 hw => within_any (num) (999) w1) (fun h15 => ?_) (fun h15 => ?_)
 refine TL.val rfl rfl rfl (gives_boolnot rfl rfl) ?_
 refine TL.val rfl rfl rfl (gives_assign rfl rfl) ?_
 refine TL.end_ (TX.then_ (TC.condF rfl (TC.seq_ (TC.region ?_))))
 refine TL.val rfl rfl rfl (gives_field rfl rfl (fun w => fR3 _ w)) ?_
 refine TL.val rfl rfl rfl (pm_load (k := 1) rfl rfl agI rfl rfl) ?_
 refine TL.callsplit rfl rfl rfl rfl rfl Tryd.func46 nmWithin bdWithin (fun w1 hw => within_any (at_) (2251799813685248) w1) (fun h19 => ?_) (fun h19 => ?_)
 refine TL.val rfl rfl rfl (gives_boolnot rfl rfl) ?_
 refine TL.val rfl rfl rfl (gives_assign rfl rfl) ?_
 refine TL.end_ (TX.then_ (TC.condF rfl (TC.seq_ (TC.region ?_))))
 refine TL.val rfl rfl rfl (gives_field rfl rfl (fun w => fR10 _ w)) ?_
 refine TL.val rfl rfl rfl (pm_load (k := 1) rfl rfl agI rfl rfl) ?_
 refine TL.callsplit rfl rfl rfl rfl rfl Tryd.func46 nmWithin bdWithin (fun w1 hw => within_any (back) (2251799813685248) w1) (fun h23 => ?_) (fun h23 => ?_)
 refine TL.val rfl rfl rfl (gives_boolnot rfl rfl) ?_
 refine TL.val rfl rfl rfl (gives_assign rfl rfl) ?_
 refine TL.end_ (TX.then_ (TC.condF rfl (TC.seq_ (TC.region ?_))))
 refine TL.val rfl rfl rfl (gives_field rfl rfl (fun w => fR10 _ w)) ?_
 refine TL.val rfl rfl rfl (pm_load (k := 1) rfl rfl agI rfl rfl) ?_
 refine TL.val rfl rfl rfl (gives_field rfl rfl (fun w => fR3 _ w)) ?_
 refine TL.val rfl rfl rfl (pm_load (k := 1) rfl rfl agI rfl rfl) ?_
 refine TL.vsplit rfl rfl rfl (gives_bin rfl rfl rfl (fun w => bin_lss w)) (fun h29 => ?_) (fun h29 => ?_)
 refine TL.val rfl rfl rfl (gives_assign rfl rfl) ?_
 refine TL.end_ (TX.then_ (TC.condT rfl (TC.skip_ (TX.then_ (TC.condT rfl (TC.seq_ (TC.region ?_)))))))
 refine TL.val rfl rfl rfl (gives_assign rfl rfl) ?_
 refine TL.end_ (TX.then_ (TC.ret_ (TX.in_ret (TX.then_ret ?_))))
 refine ret_tmp Tryd.results14 rfl (fun w1 hw => ⟨congrArg (fun x => Ending.returned (.int .i64 x)) ?_, hw.bel⟩)
 rotate_left
 refine TL.val rfl rfl rfl (gives_assign rfl rfl) ?_
 refine TL.end_ (TX.then_ (TC.condF rfl (TC.seq_ (TC.region ?_))))
 refine TL.val rfl rfl rfl (gives_field rfl rfl (fun w => fR6 _ w)) ?_
 refine TL.val rfl rfl rfl (pm_load (k := 1) rfl rfl agI rfl rfl) ?_
 refine TL.callsplit rfl rfl rfl rfl rfl Tryd.func46 nmWithin bdWithin (fun w1 hw => within_any (flow) (1023) w1) (fun h32 => ?_) (fun h32 => ?_)
 refine TL.val rfl rfl rfl (gives_boolnot rfl rfl) ?_
 refine TL.val rfl rfl rfl (gives_assign rfl rfl) ?_
 refine TL.end_ (TX.then_ (TC.condF rfl (TC.region ?_)))
 refine TL.val rfl rfl rfl (gives_field rfl rfl (fun w => fR7 _ w)) ?_
 refine TL.val rfl rfl rfl (pm_load (k := 1) rfl rfl agI rfl rfl) ?_
 refine TL.vsplit rfl rfl rfl (gives_bin rfl rfl rfl (fun w => bin_lss w)) (fun h36 => ?_) (fun h36 => ?_)
 iterate 6 (first | refine TL.off rfl rfl rfl rfl rfl rfl ?_ | refine TL.val rfl rfl rfl (gives_move rfl rfl) ?_ | refine TL.val rfl rfl rfl (gives_pick rfl rfl rfl) ?_ | refine TL.val rfl rfl rfl (gives_assign rfl rfl) ?_)
 refine TL.end_ (TX.then_ (TC.condT rfl (TC.seq_ (TC.region ?_))))
 refine TL.val rfl rfl rfl (gives_assign rfl rfl) ?_
 refine TL.end_ (TX.then_ (TC.ret_ (TX.in_ret (TX.then_ret ?_))))
 refine ret_tmp Tryd.results14 rfl (fun w1 hw => ⟨congrArg (fun x => Ending.returned (.int .i64 x)) ?_, hw.bel⟩)
 rotate_left
 refine TL.val rfl rfl rfl (gives_move rfl rfl) ?_
 refine TL.on rfl rfl rfl ?_
 refine TL.val rfl rfl rfl (gives_field rfl rfl (fun w => fR7 _ w)) ?_
 refine TL.on rfl rfl rfl ?_
 refine TL.val rfl rfl rfl (pm_load (k := 1) rfl rfl agI rfl rfl) ?_
 refine TL.on rfl rfl rfl ?_
 refine TL.vsplit rfl rfl rfl (gives_bin rfl rfl rfl (fun w => bin_gtr w)) (fun h40 => ?_) (fun h40 => ?_)
 refine TL.val rfl rfl rfl (gives_pick rfl rfl rfl) ?_
 refine TL.val rfl rfl rfl (gives_assign rfl rfl) ?_
 refine TL.end_ (TX.then_ (TC.condT rfl (TC.seq_ (TC.region ?_))))
 refine TL.val rfl rfl rfl (gives_assign rfl rfl) ?_
 refine TL.end_ (TX.then_ (TC.ret_ (TX.in_ret (TX.then_ret ?_))))
 refine ret_tmp Tryd.results14 rfl (fun w1 hw => ⟨congrArg (fun x => Ending.returned (.int .i64 x)) ?_, hw.bel⟩)
 rotate_left
 refine TL.val rfl rfl rfl (gives_pick rfl rfl rfl) ?_
 refine TL.val rfl rfl rfl (gives_assign rfl rfl) ?_
 refine TL.end_ (TX.then_ (TC.condF rfl ?_))
 refine TC.join (α := {b : Bool // decide (proto ≠ 1 ∧ proto ≠ 6 ∧ proto ≠ 17) = b}) (fun x => [(1, .pointer (some ⟨g1, 0, none⟩)), (3, .pointer (some ⟨g3, 0, none⟩)), (42, .bool x.1)]) (fun x => Pm w [.blk g3 25 [.int .u32 src, .int .i64 kind, .int .i64 code, .int .i64 left, .int .i64 id, .int .i64 quo], .blk g1 27 [.int .i64 v, .int .i64 run, .int .i64 num, .int .i64 at_, .int .u32 dst, .int .i64 proto, .int .i64 flow, .int .i64 ttl, .bool false, .bool false, .int .i64 back, .int .u32 src, .int .i64 kind, .int .i64 code, .int .i64 left, .int .i64 id, .int .i64 quo]]) ?_ ?_
 refine TC.region ?_
 refine TL.val rfl rfl rfl (gives_field rfl rfl (fun w => fR5 _ w)) ?_
 refine TL.val rfl rfl rfl (pm_load (k := 1) rfl rfl agI rfl rfl) ?_
 refine TL.vsplit rfl rfl rfl (gives_bin rfl rfl rfl (fun w => bin_neq w)) (fun h45 => ?_) (fun h45 => ?_)
 refine TL.val rfl rfl rfl (gives_move rfl rfl) ?_
 refine TL.on rfl rfl rfl ?_
 refine TL.val rfl rfl rfl (gives_field rfl rfl (fun w => fR5 _ w)) ?_
 refine TL.on rfl rfl rfl ?_
 refine TL.val rfl rfl rfl (pm_load (k := 1) rfl rfl agI rfl rfl) ?_
 refine TL.on rfl rfl rfl ?_
 refine TL.vsplit rfl rfl rfl (gives_bin rfl rfl rfl (fun w => bin_neq w)) (fun h49 => ?_) (fun h49 => ?_)
 refine TL.val rfl rfl rfl (gives_pick rfl rfl rfl) ?_
 refine TL.val rfl rfl rfl (gives_move rfl rfl) ?_
 refine TL.on rfl rfl rfl ?_
 refine TL.val rfl rfl rfl (gives_field rfl rfl (fun w => fR5 _ w)) ?_
 refine TL.on rfl rfl rfl ?_
 refine TL.val rfl rfl rfl (pm_load (k := 1) rfl rfl agI rfl rfl) ?_
 refine TL.on rfl rfl rfl ?_
 refine TL.vsplit rfl rfl rfl (gives_bin rfl rfl rfl (fun w => bin_neq w)) (fun h54 => ?_) (fun h54 => ?_)
 refine TL.val rfl rfl rfl (gives_pick rfl rfl rfl) ?_
 refine TL.val rfl rfl rfl (gives_assign rfl rfl) ?_
 refine TL.end_ ?_
 exact TX.joined (⟨true, by simp only [decide_eq_true_eq, decide_eq_false_iff_not] at *; first | omega | (apply decide_eq_true; omega) | (apply decide_eq_false; omega)⟩) (⟨rfl, rfl, rfl, trivial⟩) (fun w hw => hw)
 refine TL.val rfl rfl rfl (gives_pick rfl rfl rfl) ?_
 refine TL.val rfl rfl rfl (gives_assign rfl rfl) ?_
 refine TL.end_ ?_
 exact TX.joined (⟨false, by simp only [decide_eq_true_eq, decide_eq_false_iff_not] at *; first | omega | (apply decide_eq_true; omega) | (apply decide_eq_false; omega)⟩) (⟨rfl, rfl, rfl, trivial⟩) (fun w hw => hw)
 iterate 7 (first | refine TL.off rfl rfl rfl rfl rfl rfl ?_ | refine TL.val rfl rfl rfl (gives_pick rfl rfl rfl) ?_ | refine TL.val rfl rfl rfl (gives_move rfl rfl) ?_ | refine TL.val rfl rfl rfl (gives_assign rfl rfl) ?_)
 refine TL.end_ ?_
 exact TX.joined (⟨false, by simp only [decide_eq_true_eq, decide_eq_false_iff_not] at *; first | omega | (apply decide_eq_true; omega) | (apply decide_eq_false; omega)⟩) (⟨rfl, rfl, rfl, trivial⟩) (fun w hw => hw)
 iterate 11 (first | refine TL.off rfl rfl rfl rfl rfl rfl ?_ | refine TL.val rfl rfl rfl (gives_move rfl rfl) ?_ | refine TL.val rfl rfl rfl (gives_pick rfl rfl rfl) ?_ | refine TL.val rfl rfl rfl (gives_assign rfl rfl) ?_)
 refine TL.end_ ?_
 exact TX.joined (⟨false, by simp only [decide_eq_true_eq, decide_eq_false_iff_not] at *; first | omega | (apply decide_eq_true; omega) | (apply decide_eq_false; omega)⟩) (⟨rfl, rfl, rfl, trivial⟩) (fun w hw => hw)
 rintro ⟨b, hb⟩
 dsimp only
 cases b
 refine TC.condF rfl (TC.seq_ (TC.seq_ (TC.region ?_)))
 refine TL.val rfl rfl rfl (gives_field rfl rfl (fun w => fR9 _ w)) ?_
 refine TL.val rfl rfl rfl (pm_load (k := 1) rfl rfl agB rfl rfl) ?_
 iterate 6 (first | refine TL.off rfl rfl rfl rfl rfl rfl ?_ | refine TL.val rfl rfl rfl (gives_move rfl rfl) ?_ | refine TL.val rfl rfl rfl (gives_pick rfl rfl rfl) ?_ | refine TL.val rfl rfl rfl (gives_assign rfl rfl) ?_)
 refine TL.end_ (TX.then_ (TC.condF rfl (TC.region ?_)))
 refine TL.val rfl rfl rfl (gives_field rfl rfl (fun w => fR8 _ w)) ?_
 refine TL.val rfl rfl rfl (pm_load (k := 1) rfl rfl agB rfl rfl) ?_
 refine TL.val rfl rfl rfl (gives_boolnot rfl rfl) ?_
 refine TL.val rfl rfl rfl (gives_move rfl rfl) ?_
 refine TL.on rfl rfl rfl ?_
 refine TL.val rfl rfl rfl (pm_loadAgg (k := 0) (n := 6) rfl rfl agA szA rfl (Nat.le_refl 6)) ?_
 refine TL.on rfl rfl rfl ?_
 refine TL.val rfl rfl rfl (gives_build rfl rfl (fun w => buildA w)) ?_
 refine TL.on rfl rfl rfl ?_
 refine TL.vsplit rfl rfl rfl (gives_bin2 rfl rfl rfl (fun w => neqA _ _ _ _ _ _ _ _ _ _ _ _ w)) (fun h70 => ?_) (fun h70 => ?_)
 refine TL.val rfl rfl rfl (gives_pick rfl rfl rfl) ?_
 refine TL.val rfl rfl rfl (gives_assign rfl rfl) ?_
 refine TL.end_ (TX.then_ (TC.condT rfl (TC.seq_ (TC.region ?_))))
 refine TL.val rfl rfl rfl (gives_assign rfl rfl) ?_
 refine TL.end_ (TX.then_ (TC.ret_ (TX.in_ret (TX.then_ret ?_))))
 refine ret_tmp Tryd.results14 rfl (fun w1 hw => ⟨congrArg (fun x => Ending.returned (.int .i64 x)) ?_, hw.bel⟩)
 rotate_left
 refine TL.val rfl rfl rfl (gives_pick rfl rfl rfl) ?_
 refine TL.val rfl rfl rfl (gives_assign rfl rfl) ?_
 refine TL.end_ (TX.then_ (TC.condF rfl (TC.seq_ (TC.region ?_))))
 refine TL.val rfl rfl rfl (gives_field rfl rfl (fun w => fR8 _ w)) ?_
 refine TL.val rfl rfl rfl (pm_load (k := 1) rfl rfl agB rfl rfl) ?_
 iterate 35 (first | refine TL.offU rfl rfl rfl rfl rfl ?_ | refine TL.off rfl rfl rfl rfl rfl rfl ?_ | refine TL.val rfl rfl rfl (gives_move rfl rfl) ?_ | refine TL.val rfl rfl rfl (gives_pick rfl rfl rfl) ?_ | refine TL.val rfl rfl rfl (gives_assign rfl rfl) ?_)
 refine TL.end_ (TX.then_ (TC.condF rfl (TC.skip_ (TX.in_normal (TX.then_ (TC.seq_ (TC.region ?_)))))))
 refine TL.val rfl rfl rfl (gives_assign rfl rfl) ?_
 refine TL.end_ (TX.then_ (TC.ret_ ?_))
 refine ret_tmp Tryd.results14 rfl (fun w1 hw => ⟨congrArg (fun x => Ending.returned (.int .i64 x)) ?_, hw.bel⟩)
 rotate_left
 refine TC.condT rfl (TC.seq_ (TC.region ?_))
 refine TL.val rfl rfl rfl (gives_assign rfl rfl) ?_
 refine TL.end_ (TX.then_ (TC.ret_ (TX.in_ret (TX.then_ret ?_))))
 refine ret_tmp Tryd.results14 rfl (fun w1 hw => ⟨congrArg (fun x => Ending.returned (.int .i64 x)) ?_, hw.bel⟩)
 rotate_left
 refine TL.val rfl rfl rfl (gives_boolnot rfl rfl) ?_
 refine TL.val rfl rfl rfl (gives_assign rfl rfl) ?_
 refine TL.end_ (TX.then_ (TC.condT rfl (TC.skip_ (TX.then_ (TC.condT rfl (TC.seq_ (TC.region ?_)))))))
 refine TL.val rfl rfl rfl (gives_assign rfl rfl) ?_
 refine TL.end_ (TX.then_ (TC.ret_ (TX.in_ret (TX.then_ret ?_))))
 refine ret_tmp Tryd.results14 rfl (fun w1 hw => ⟨congrArg (fun x => Ending.returned (.int .i64 x)) ?_, hw.bel⟩)
 rotate_left
 refine TL.val rfl rfl rfl (gives_boolnot rfl rfl) ?_
 refine TL.val rfl rfl rfl (gives_assign rfl rfl) ?_
 refine TL.end_ (TX.then_ (TC.condT rfl (TC.skip_ (TX.then_ (TC.condT rfl (TC.seq_ (TC.region ?_)))))))
 refine TL.val rfl rfl rfl (gives_assign rfl rfl) ?_
 refine TL.end_ (TX.then_ (TC.ret_ (TX.in_ret (TX.then_ret ?_))))
 refine ret_tmp Tryd.results14 rfl (fun w1 hw => ⟨congrArg (fun x => Ending.returned (.int .i64 x)) ?_, hw.bel⟩)
 rotate_left
 refine TL.val rfl rfl rfl (gives_boolnot rfl rfl) ?_
 refine TL.val rfl rfl rfl (gives_assign rfl rfl) ?_
 refine TL.end_ (TX.then_ (TC.condT rfl (TC.skip_ (TX.then_ (TC.condT rfl (TC.seq_ (TC.region ?_)))))))
 refine TL.val rfl rfl rfl (gives_assign rfl rfl) ?_
 refine TL.end_ (TX.then_ (TC.ret_ (TX.in_ret (TX.then_ret ?_))))
 refine ret_tmp Tryd.results14 rfl (fun w1 hw => ⟨congrArg (fun x => Ending.returned (.int .i64 x)) ?_, hw.bel⟩)
 rotate_left
 refine TL.val rfl rfl rfl (gives_boolnot rfl rfl) ?_
 refine TL.val rfl rfl rfl (gives_assign rfl rfl) ?_
 refine TL.end_ (TX.then_ (TC.condT rfl (TC.skip_ (TX.then_ (TC.condT rfl (TC.seq_ (TC.region ?_)))))))
 refine TL.val rfl rfl rfl (gives_assign rfl rfl) ?_
 refine TL.end_ (TX.then_ (TC.ret_ (TX.in_ret (TX.then_ret ?_))))
 refine ret_tmp Tryd.results14 rfl (fun w1 hw => ⟨congrArg (fun x => Ending.returned (.int .i64 x)) ?_, hw.bel⟩)
 rotate_left
 refine TL.val rfl rfl rfl (gives_boolnot rfl rfl) ?_
 refine TL.val rfl rfl rfl (gives_assign rfl rfl) ?_
 refine TL.end_ (TX.then_ (TC.condT rfl (TC.skip_ (TX.then_ (TC.condT rfl (TC.seq_ (TC.region ?_)))))))
 refine TL.val rfl rfl rfl (gives_assign rfl rfl) ?_
 refine TL.end_ (TX.then_ (TC.ret_ (TX.in_ret (TX.then_ret ?_))))
 refine ret_tmp Tryd.results14 rfl (fun w1 hw => ⟨congrArg (fun x => Ending.returned (.int .i64 x)) ?_, hw.bel⟩)
 rotate_left
 all_goals (simp only [decide_eq_true_eq, decide_eq_false_iff_not] at *; first | exact chk_range (by unfold Rs.inRange; dsimp only; omega) | exact chk_ans rfl (by unfold Rs.inRange; dsimp only; omega) (by dsimp only; omega) (by unfold Rs.ansOk; dsimp only; omega) | (simp only [chkR, Rs.inRange, Rs.ansOk, Rs.noAns]; (try split) <;> (try split) <;> (try split) <;> (try split) <;> first | rfl | omega | (simp_all; done) | (simp_all; omega)))
set_option maxHeartbeats 2000000 in
theorem check_any_ft (v run num at_ dst proto flow ttl back src kind code left id quo : Int) (w : World) :
  Calls Tryd.prog 14 #[.agg #[.int .i64 v, .int .i64 run, .int .i64 num, .int .i64 at_, .int .u32 dst, .int .i64 proto, .int .i64 flow, .int .i64 ttl, .bool false, .bool true, .int .i64 back, .int .u32 src, .int .i64 kind, .int .i64 code, .int .i64 left, .int .i64 id, .int .i64 quo]] w fun e w' => e = .returned (.int .i64 (chkR ⟨v, run, num, at_, dst, proto, flow, ttl, false, true, back, src, kind, code, left, id, quo⟩)) ∧ Below w.heap.size w w' := by
 refine begin_ (vs := [.agg #[.int .i64 v, .int .i64 run, .int .i64 num, .int .i64 at_, .int .u32 dst, .int .i64 proto, .int .i64 flow, .int .i64 ttl, .bool false, .bool true, .int .i64 back, .int .u32 src, .int .i64 kind, .int .i64 code, .int .i64 left, .int .i64 id, .int .i64 quo]]) Tryd.func14 rfl rfl rfl ?_ (Pm.start w)
 refine TC.seq_ (TC.region ?_)
 refine TL.pnew rfl rfl rfl (exec_box (cs := [.int .i64 v, .int .i64 run, .int .i64 num, .int .i64 at_, .int .u32 dst, .int .i64 proto, .int .i64 flow, .int .i64 ttl, .bool false, .bool true, .int .i64 back, .int .u32 src, .int .i64 kind, .int .i64 code, .int .i64 left, .int .i64 id, .int .i64 quo]) rfl rfl rfl) (fun g1 => ?_)
 refine TL.val rfl rfl rfl (gives_assign rfl rfl) ?_
 refine TL.end_ (TX.then_ (TC.seq_ (TC.region ?_)))
 refine TL.val rfl rfl rfl (gives_field rfl rfl (fun w => fR11 _ w)) ?_
 refine TL.val rfl rfl rfl (pm_loadAgg (k := 0) (n := 6) rfl rfl agA szA rfl (Nat.le_refl 17)) ?_
 refine TL.pnew rfl rfl rfl (exec_alloc (cs := [.int .u32 0, .int .i64 0, .int .i64 0, .int .i64 0, .int .i64 0, .int .i64 0]) rfl zeroA rfl) (fun g3 => ?_)
 refine TL.pstore (k := 0) (vs := [.int .u32 src, .int .i64 kind, .int .i64 code, .int .i64 left, .int .i64 id, .int .i64 quo]) rfl rfl rfl rfl rfl rfl rfl szA (oneA _ _ _ _ _ _) (Nat.le_refl 6) (L' := [.blk g3 25 [.int .u32 src, .int .i64 kind, .int .i64 code, .int .i64 left, .int .i64 id, .int .i64 quo], .blk g1 27 [.int .i64 v, .int .i64 run, .int .i64 num, .int .i64 at_, .int .u32 dst, .int .i64 proto, .int .i64 flow, .int .i64 ttl, .bool false, .bool true, .int .i64 back, .int .u32 src, .int .i64 kind, .int .i64 code, .int .i64 left, .int .i64 id, .int .i64 quo]]) rfl ?_
 refine TL.end_ (TX.then_ (TC.seq_ (TC.block (TC.seq_ (TC.seq_ (TC.region ?_))))))
 refine TL.val rfl rfl rfl (gives_field rfl rfl (fun w => fR0 _ w)) ?_
 refine TL.val rfl rfl rfl (pm_load (k := 1) rfl rfl agI rfl rfl) ?_
 refine TL.val rfl rfl rfl (gives_field rfl rfl (fun w => fR1 _ w)) ?_
 refine TL.val rfl rfl rfl (pm_load (k := 1) rfl rfl agI rfl rfl) ?_
 refine TL.callsplit rfl rfl rfl rfl rfl Tryd.func45 nmRun bdRun (fun w1 hw => run_any v run w1) (fun h11 => ?_) (fun h11 => ?_)
 refine TL.val rfl rfl rfl (gives_boolnot rfl rfl) ?_
 refine TL.val rfl rfl rfl (gives_assign rfl rfl) ?_
 refine TL.end_ (TX.then_ (TC.condF rfl (TC.seq_ (TC.region ?_))))
 refine TL.val rfl rfl rfl (gives_field rfl rfl (fun w => fR2 _ w)) ?_
 refine TL.val rfl rfl rfl (pm_load (k := 1) rfl rfl agI rfl rfl) ?_
 refine TL.callsplit rfl rfl rfl rfl rfl Tryd.func46 nmWithin bdWithin (fun w1 hw => within_any (num) (999) w1) (fun h15 => ?_) (fun h15 => ?_)
 refine TL.val rfl rfl rfl (gives_boolnot rfl rfl) ?_
 refine TL.val rfl rfl rfl (gives_assign rfl rfl) ?_
 refine TL.end_ (TX.then_ (TC.condF rfl (TC.seq_ (TC.region ?_))))
 refine TL.val rfl rfl rfl (gives_field rfl rfl (fun w => fR3 _ w)) ?_
 refine TL.val rfl rfl rfl (pm_load (k := 1) rfl rfl agI rfl rfl) ?_
 refine TL.callsplit rfl rfl rfl rfl rfl Tryd.func46 nmWithin bdWithin (fun w1 hw => within_any (at_) (2251799813685248) w1) (fun h19 => ?_) (fun h19 => ?_)
 refine TL.val rfl rfl rfl (gives_boolnot rfl rfl) ?_
 refine TL.val rfl rfl rfl (gives_assign rfl rfl) ?_
 refine TL.end_ (TX.then_ (TC.condF rfl (TC.seq_ (TC.region ?_))))
 refine TL.val rfl rfl rfl (gives_field rfl rfl (fun w => fR10 _ w)) ?_
 refine TL.val rfl rfl rfl (pm_load (k := 1) rfl rfl agI rfl rfl) ?_
 refine TL.callsplit rfl rfl rfl rfl rfl Tryd.func46 nmWithin bdWithin (fun w1 hw => within_any (back) (2251799813685248) w1) (fun h23 => ?_) (fun h23 => ?_)
 refine TL.val rfl rfl rfl (gives_boolnot rfl rfl) ?_
 refine TL.val rfl rfl rfl (gives_assign rfl rfl) ?_
 refine TL.end_ (TX.then_ (TC.condF rfl (TC.seq_ (TC.region ?_))))
 refine TL.val rfl rfl rfl (gives_field rfl rfl (fun w => fR10 _ w)) ?_
 refine TL.val rfl rfl rfl (pm_load (k := 1) rfl rfl agI rfl rfl) ?_
 refine TL.val rfl rfl rfl (gives_field rfl rfl (fun w => fR3 _ w)) ?_
 refine TL.val rfl rfl rfl (pm_load (k := 1) rfl rfl agI rfl rfl) ?_
 refine TL.vsplit rfl rfl rfl (gives_bin rfl rfl rfl (fun w => bin_lss w)) (fun h29 => ?_) (fun h29 => ?_)
 refine TL.val rfl rfl rfl (gives_assign rfl rfl) ?_
 refine TL.end_ (TX.then_ (TC.condT rfl (TC.skip_ (TX.then_ (TC.condT rfl (TC.seq_ (TC.region ?_)))))))
 refine TL.val rfl rfl rfl (gives_assign rfl rfl) ?_
 refine TL.end_ (TX.then_ (TC.ret_ (TX.in_ret (TX.then_ret ?_))))
 refine ret_tmp Tryd.results14 rfl (fun w1 hw => ⟨congrArg (fun x => Ending.returned (.int .i64 x)) ?_, hw.bel⟩)
 rotate_left
 refine TL.val rfl rfl rfl (gives_assign rfl rfl) ?_
 refine TL.end_ (TX.then_ (TC.condF rfl (TC.seq_ (TC.region ?_))))
 refine TL.val rfl rfl rfl (gives_field rfl rfl (fun w => fR6 _ w)) ?_
 refine TL.val rfl rfl rfl (pm_load (k := 1) rfl rfl agI rfl rfl) ?_
 refine TL.callsplit rfl rfl rfl rfl rfl Tryd.func46 nmWithin bdWithin (fun w1 hw => within_any (flow) (1023) w1) (fun h32 => ?_) (fun h32 => ?_)
 refine TL.val rfl rfl rfl (gives_boolnot rfl rfl) ?_
 refine TL.val rfl rfl rfl (gives_assign rfl rfl) ?_
 refine TL.end_ (TX.then_ (TC.condF rfl (TC.region ?_)))
 refine TL.val rfl rfl rfl (gives_field rfl rfl (fun w => fR7 _ w)) ?_
 refine TL.val rfl rfl rfl (pm_load (k := 1) rfl rfl agI rfl rfl) ?_
 refine TL.vsplit rfl rfl rfl (gives_bin rfl rfl rfl (fun w => bin_lss w)) (fun h36 => ?_) (fun h36 => ?_)
 iterate 6 (first | refine TL.off rfl rfl rfl rfl rfl rfl ?_ | refine TL.val rfl rfl rfl (gives_move rfl rfl) ?_ | refine TL.val rfl rfl rfl (gives_pick rfl rfl rfl) ?_ | refine TL.val rfl rfl rfl (gives_assign rfl rfl) ?_)
 refine TL.end_ (TX.then_ (TC.condT rfl (TC.seq_ (TC.region ?_))))
 refine TL.val rfl rfl rfl (gives_assign rfl rfl) ?_
 refine TL.end_ (TX.then_ (TC.ret_ (TX.in_ret (TX.then_ret ?_))))
 refine ret_tmp Tryd.results14 rfl (fun w1 hw => ⟨congrArg (fun x => Ending.returned (.int .i64 x)) ?_, hw.bel⟩)
 rotate_left
 refine TL.val rfl rfl rfl (gives_move rfl rfl) ?_
 refine TL.on rfl rfl rfl ?_
 refine TL.val rfl rfl rfl (gives_field rfl rfl (fun w => fR7 _ w)) ?_
 refine TL.on rfl rfl rfl ?_
 refine TL.val rfl rfl rfl (pm_load (k := 1) rfl rfl agI rfl rfl) ?_
 refine TL.on rfl rfl rfl ?_
 refine TL.vsplit rfl rfl rfl (gives_bin rfl rfl rfl (fun w => bin_gtr w)) (fun h40 => ?_) (fun h40 => ?_)
 refine TL.val rfl rfl rfl (gives_pick rfl rfl rfl) ?_
 refine TL.val rfl rfl rfl (gives_assign rfl rfl) ?_
 refine TL.end_ (TX.then_ (TC.condT rfl (TC.seq_ (TC.region ?_))))
 refine TL.val rfl rfl rfl (gives_assign rfl rfl) ?_
 refine TL.end_ (TX.then_ (TC.ret_ (TX.in_ret (TX.then_ret ?_))))
 refine ret_tmp Tryd.results14 rfl (fun w1 hw => ⟨congrArg (fun x => Ending.returned (.int .i64 x)) ?_, hw.bel⟩)
 rotate_left
 refine TL.val rfl rfl rfl (gives_pick rfl rfl rfl) ?_
 refine TL.val rfl rfl rfl (gives_assign rfl rfl) ?_
 refine TL.end_ (TX.then_ (TC.condF rfl ?_))
 refine TC.join (α := {b : Bool // decide (proto ≠ 1 ∧ proto ≠ 6 ∧ proto ≠ 17) = b}) (fun x => [(1, .pointer (some ⟨g1, 0, none⟩)), (3, .pointer (some ⟨g3, 0, none⟩)), (42, .bool x.1)]) (fun x => Pm w [.blk g3 25 [.int .u32 src, .int .i64 kind, .int .i64 code, .int .i64 left, .int .i64 id, .int .i64 quo], .blk g1 27 [.int .i64 v, .int .i64 run, .int .i64 num, .int .i64 at_, .int .u32 dst, .int .i64 proto, .int .i64 flow, .int .i64 ttl, .bool false, .bool true, .int .i64 back, .int .u32 src, .int .i64 kind, .int .i64 code, .int .i64 left, .int .i64 id, .int .i64 quo]]) ?_ ?_
 refine TC.region ?_
 refine TL.val rfl rfl rfl (gives_field rfl rfl (fun w => fR5 _ w)) ?_
 refine TL.val rfl rfl rfl (pm_load (k := 1) rfl rfl agI rfl rfl) ?_
 refine TL.vsplit rfl rfl rfl (gives_bin rfl rfl rfl (fun w => bin_neq w)) (fun h45 => ?_) (fun h45 => ?_)
 refine TL.val rfl rfl rfl (gives_move rfl rfl) ?_
 refine TL.on rfl rfl rfl ?_
 refine TL.val rfl rfl rfl (gives_field rfl rfl (fun w => fR5 _ w)) ?_
 refine TL.on rfl rfl rfl ?_
 refine TL.val rfl rfl rfl (pm_load (k := 1) rfl rfl agI rfl rfl) ?_
 refine TL.on rfl rfl rfl ?_
 refine TL.vsplit rfl rfl rfl (gives_bin rfl rfl rfl (fun w => bin_neq w)) (fun h49 => ?_) (fun h49 => ?_)
 refine TL.val rfl rfl rfl (gives_pick rfl rfl rfl) ?_
 refine TL.val rfl rfl rfl (gives_move rfl rfl) ?_
 refine TL.on rfl rfl rfl ?_
 refine TL.val rfl rfl rfl (gives_field rfl rfl (fun w => fR5 _ w)) ?_
 refine TL.on rfl rfl rfl ?_
 refine TL.val rfl rfl rfl (pm_load (k := 1) rfl rfl agI rfl rfl) ?_
 refine TL.on rfl rfl rfl ?_
 refine TL.vsplit rfl rfl rfl (gives_bin rfl rfl rfl (fun w => bin_neq w)) (fun h54 => ?_) (fun h54 => ?_)
 refine TL.val rfl rfl rfl (gives_pick rfl rfl rfl) ?_
 refine TL.val rfl rfl rfl (gives_assign rfl rfl) ?_
 refine TL.end_ ?_
 exact TX.joined (⟨true, by simp only [decide_eq_true_eq, decide_eq_false_iff_not] at *; first | omega | (apply decide_eq_true; omega) | (apply decide_eq_false; omega)⟩) (⟨rfl, rfl, rfl, trivial⟩) (fun w hw => hw)
 refine TL.val rfl rfl rfl (gives_pick rfl rfl rfl) ?_
 refine TL.val rfl rfl rfl (gives_assign rfl rfl) ?_
 refine TL.end_ ?_
 exact TX.joined (⟨false, by simp only [decide_eq_true_eq, decide_eq_false_iff_not] at *; first | omega | (apply decide_eq_true; omega) | (apply decide_eq_false; omega)⟩) (⟨rfl, rfl, rfl, trivial⟩) (fun w hw => hw)
 iterate 7 (first | refine TL.off rfl rfl rfl rfl rfl rfl ?_ | refine TL.val rfl rfl rfl (gives_pick rfl rfl rfl) ?_ | refine TL.val rfl rfl rfl (gives_move rfl rfl) ?_ | refine TL.val rfl rfl rfl (gives_assign rfl rfl) ?_)
 refine TL.end_ ?_
 exact TX.joined (⟨false, by simp only [decide_eq_true_eq, decide_eq_false_iff_not] at *; first | omega | (apply decide_eq_true; omega) | (apply decide_eq_false; omega)⟩) (⟨rfl, rfl, rfl, trivial⟩) (fun w hw => hw)
 iterate 11 (first | refine TL.off rfl rfl rfl rfl rfl rfl ?_ | refine TL.val rfl rfl rfl (gives_move rfl rfl) ?_ | refine TL.val rfl rfl rfl (gives_pick rfl rfl rfl) ?_ | refine TL.val rfl rfl rfl (gives_assign rfl rfl) ?_)
 refine TL.end_ ?_
 exact TX.joined (⟨false, by simp only [decide_eq_true_eq, decide_eq_false_iff_not] at *; first | omega | (apply decide_eq_true; omega) | (apply decide_eq_false; omega)⟩) (⟨rfl, rfl, rfl, trivial⟩) (fun w hw => hw)
 rintro ⟨b, hb⟩
 dsimp only
 cases b
 refine TC.condF rfl (TC.seq_ (TC.seq_ (TC.region ?_)))
 refine TL.val rfl rfl rfl (gives_field rfl rfl (fun w => fR9 _ w)) ?_
 refine TL.val rfl rfl rfl (pm_load (k := 1) rfl rfl agB rfl rfl) ?_
 refine TL.val rfl rfl rfl (gives_move rfl rfl) ?_
 refine TL.on rfl rfl rfl ?_
 refine TL.val rfl rfl rfl (gives_field rfl rfl (fun w => fR8 _ w)) ?_
 refine TL.on rfl rfl rfl ?_
 refine TL.val rfl rfl rfl (pm_load (k := 1) rfl rfl agB rfl rfl) ?_
 refine TL.on rfl rfl rfl ?_
 refine TL.val rfl rfl rfl (gives_boolnot rfl rfl) ?_
 refine TL.val rfl rfl rfl (gives_pick rfl rfl rfl) ?_
 refine TL.val rfl rfl rfl (gives_assign rfl rfl) ?_
 refine TL.end_ (TX.then_ (TC.condT rfl (TC.skip_ (TX.then_ (TC.condT rfl (TC.seq_ (TC.region ?_)))))))
 refine TL.val rfl rfl rfl (gives_assign rfl rfl) ?_
 refine TL.end_ (TX.then_ (TC.ret_ (TX.in_ret (TX.then_ret ?_))))
 refine ret_tmp Tryd.results14 rfl (fun w1 hw => ⟨congrArg (fun x => Ending.returned (.int .i64 x)) ?_, hw.bel⟩)
 rotate_left
 refine TC.condT rfl (TC.seq_ (TC.region ?_))
 refine TL.val rfl rfl rfl (gives_assign rfl rfl) ?_
 refine TL.end_ (TX.then_ (TC.ret_ (TX.in_ret (TX.then_ret ?_))))
 refine ret_tmp Tryd.results14 rfl (fun w1 hw => ⟨congrArg (fun x => Ending.returned (.int .i64 x)) ?_, hw.bel⟩)
 rotate_left
 refine TL.val rfl rfl rfl (gives_boolnot rfl rfl) ?_
 refine TL.val rfl rfl rfl (gives_assign rfl rfl) ?_
 refine TL.end_ (TX.then_ (TC.condT rfl (TC.skip_ (TX.then_ (TC.condT rfl (TC.seq_ (TC.region ?_)))))))
 refine TL.val rfl rfl rfl (gives_assign rfl rfl) ?_
 refine TL.end_ (TX.then_ (TC.ret_ (TX.in_ret (TX.then_ret ?_))))
 refine ret_tmp Tryd.results14 rfl (fun w1 hw => ⟨congrArg (fun x => Ending.returned (.int .i64 x)) ?_, hw.bel⟩)
 rotate_left
 refine TL.val rfl rfl rfl (gives_boolnot rfl rfl) ?_
 refine TL.val rfl rfl rfl (gives_assign rfl rfl) ?_
 refine TL.end_ (TX.then_ (TC.condT rfl (TC.skip_ (TX.then_ (TC.condT rfl (TC.seq_ (TC.region ?_)))))))
 refine TL.val rfl rfl rfl (gives_assign rfl rfl) ?_
 refine TL.end_ (TX.then_ (TC.ret_ (TX.in_ret (TX.then_ret ?_))))
 refine ret_tmp Tryd.results14 rfl (fun w1 hw => ⟨congrArg (fun x => Ending.returned (.int .i64 x)) ?_, hw.bel⟩)
 rotate_left
 refine TL.val rfl rfl rfl (gives_boolnot rfl rfl) ?_
 refine TL.val rfl rfl rfl (gives_assign rfl rfl) ?_
 refine TL.end_ (TX.then_ (TC.condT rfl (TC.skip_ (TX.then_ (TC.condT rfl (TC.seq_ (TC.region ?_)))))))
 refine TL.val rfl rfl rfl (gives_assign rfl rfl) ?_
 refine TL.end_ (TX.then_ (TC.ret_ (TX.in_ret (TX.then_ret ?_))))
 refine ret_tmp Tryd.results14 rfl (fun w1 hw => ⟨congrArg (fun x => Ending.returned (.int .i64 x)) ?_, hw.bel⟩)
 rotate_left
 refine TL.val rfl rfl rfl (gives_boolnot rfl rfl) ?_
 refine TL.val rfl rfl rfl (gives_assign rfl rfl) ?_
 refine TL.end_ (TX.then_ (TC.condT rfl (TC.skip_ (TX.then_ (TC.condT rfl (TC.seq_ (TC.region ?_)))))))
 refine TL.val rfl rfl rfl (gives_assign rfl rfl) ?_
 refine TL.end_ (TX.then_ (TC.ret_ (TX.in_ret (TX.then_ret ?_))))
 refine ret_tmp Tryd.results14 rfl (fun w1 hw => ⟨congrArg (fun x => Ending.returned (.int .i64 x)) ?_, hw.bel⟩)
 rotate_left
 refine TL.val rfl rfl rfl (gives_boolnot rfl rfl) ?_
 refine TL.val rfl rfl rfl (gives_assign rfl rfl) ?_
 refine TL.end_ (TX.then_ (TC.condT rfl (TC.skip_ (TX.then_ (TC.condT rfl (TC.seq_ (TC.region ?_)))))))
 refine TL.val rfl rfl rfl (gives_assign rfl rfl) ?_
 refine TL.end_ (TX.then_ (TC.ret_ (TX.in_ret (TX.then_ret ?_))))
 refine ret_tmp Tryd.results14 rfl (fun w1 hw => ⟨congrArg (fun x => Ending.returned (.int .i64 x)) ?_, hw.bel⟩)
 rotate_left
 all_goals (simp only [decide_eq_true_eq, decide_eq_false_iff_not] at *; first | exact chk_range (by unfold Rs.inRange; dsimp only; omega) | exact chk_ans rfl (by unfold Rs.inRange; dsimp only; omega) (by dsimp only; omega) (by unfold Rs.ansOk; dsimp only; omega) | (simp only [chkR, Rs.inRange, Rs.ansOk, Rs.noAns]; (try split) <;> (try split) <;> (try split) <;> (try split) <;> first | rfl | omega | (simp_all; done) | (simp_all; omega)))
set_option maxHeartbeats 2000000 in
theorem check_any_tf (v run num at_ dst proto flow ttl back src kind code left id quo : Int) (w : World) :
  Calls Tryd.prog 14 #[.agg #[.int .i64 v, .int .i64 run, .int .i64 num, .int .i64 at_, .int .u32 dst, .int .i64 proto, .int .i64 flow, .int .i64 ttl, .bool true, .bool false, .int .i64 back, .int .u32 src, .int .i64 kind, .int .i64 code, .int .i64 left, .int .i64 id, .int .i64 quo]] w fun e w' => e = .returned (.int .i64 (chkR ⟨v, run, num, at_, dst, proto, flow, ttl, true, false, back, src, kind, code, left, id, quo⟩)) ∧ Below w.heap.size w w' := by
 refine begin_ (vs := [.agg #[.int .i64 v, .int .i64 run, .int .i64 num, .int .i64 at_, .int .u32 dst, .int .i64 proto, .int .i64 flow, .int .i64 ttl, .bool true, .bool false, .int .i64 back, .int .u32 src, .int .i64 kind, .int .i64 code, .int .i64 left, .int .i64 id, .int .i64 quo]]) Tryd.func14 rfl rfl rfl ?_ (Pm.start w)
 refine TC.seq_ (TC.region ?_)
 refine TL.pnew rfl rfl rfl (exec_box (cs := [.int .i64 v, .int .i64 run, .int .i64 num, .int .i64 at_, .int .u32 dst, .int .i64 proto, .int .i64 flow, .int .i64 ttl, .bool true, .bool false, .int .i64 back, .int .u32 src, .int .i64 kind, .int .i64 code, .int .i64 left, .int .i64 id, .int .i64 quo]) rfl rfl rfl) (fun g1 => ?_)
 refine TL.val rfl rfl rfl (gives_assign rfl rfl) ?_
 refine TL.end_ (TX.then_ (TC.seq_ (TC.region ?_)))
 refine TL.val rfl rfl rfl (gives_field rfl rfl (fun w => fR11 _ w)) ?_
 refine TL.val rfl rfl rfl (pm_loadAgg (k := 0) (n := 6) rfl rfl agA szA rfl (Nat.le_refl 17)) ?_
 refine TL.pnew rfl rfl rfl (exec_alloc (cs := [.int .u32 0, .int .i64 0, .int .i64 0, .int .i64 0, .int .i64 0, .int .i64 0]) rfl zeroA rfl) (fun g3 => ?_)
 refine TL.pstore (k := 0) (vs := [.int .u32 src, .int .i64 kind, .int .i64 code, .int .i64 left, .int .i64 id, .int .i64 quo]) rfl rfl rfl rfl rfl rfl rfl szA (oneA _ _ _ _ _ _) (Nat.le_refl 6) (L' := [.blk g3 25 [.int .u32 src, .int .i64 kind, .int .i64 code, .int .i64 left, .int .i64 id, .int .i64 quo], .blk g1 27 [.int .i64 v, .int .i64 run, .int .i64 num, .int .i64 at_, .int .u32 dst, .int .i64 proto, .int .i64 flow, .int .i64 ttl, .bool true, .bool false, .int .i64 back, .int .u32 src, .int .i64 kind, .int .i64 code, .int .i64 left, .int .i64 id, .int .i64 quo]]) rfl ?_
 refine TL.end_ (TX.then_ (TC.seq_ (TC.block (TC.seq_ (TC.seq_ (TC.region ?_))))))
 refine TL.val rfl rfl rfl (gives_field rfl rfl (fun w => fR0 _ w)) ?_
 refine TL.val rfl rfl rfl (pm_load (k := 1) rfl rfl agI rfl rfl) ?_
 refine TL.val rfl rfl rfl (gives_field rfl rfl (fun w => fR1 _ w)) ?_
 refine TL.val rfl rfl rfl (pm_load (k := 1) rfl rfl agI rfl rfl) ?_
 refine TL.callsplit rfl rfl rfl rfl rfl Tryd.func45 nmRun bdRun (fun w1 hw => run_any v run w1) (fun h11 => ?_) (fun h11 => ?_)
 refine TL.val rfl rfl rfl (gives_boolnot rfl rfl) ?_
 refine TL.val rfl rfl rfl (gives_assign rfl rfl) ?_
 refine TL.end_ (TX.then_ (TC.condF rfl (TC.seq_ (TC.region ?_))))
 refine TL.val rfl rfl rfl (gives_field rfl rfl (fun w => fR2 _ w)) ?_
 refine TL.val rfl rfl rfl (pm_load (k := 1) rfl rfl agI rfl rfl) ?_
 refine TL.callsplit rfl rfl rfl rfl rfl Tryd.func46 nmWithin bdWithin (fun w1 hw => within_any (num) (999) w1) (fun h15 => ?_) (fun h15 => ?_)
 refine TL.val rfl rfl rfl (gives_boolnot rfl rfl) ?_
 refine TL.val rfl rfl rfl (gives_assign rfl rfl) ?_
 refine TL.end_ (TX.then_ (TC.condF rfl (TC.seq_ (TC.region ?_))))
 refine TL.val rfl rfl rfl (gives_field rfl rfl (fun w => fR3 _ w)) ?_
 refine TL.val rfl rfl rfl (pm_load (k := 1) rfl rfl agI rfl rfl) ?_
 refine TL.callsplit rfl rfl rfl rfl rfl Tryd.func46 nmWithin bdWithin (fun w1 hw => within_any (at_) (2251799813685248) w1) (fun h19 => ?_) (fun h19 => ?_)
 refine TL.val rfl rfl rfl (gives_boolnot rfl rfl) ?_
 refine TL.val rfl rfl rfl (gives_assign rfl rfl) ?_
 refine TL.end_ (TX.then_ (TC.condF rfl (TC.seq_ (TC.region ?_))))
 refine TL.val rfl rfl rfl (gives_field rfl rfl (fun w => fR10 _ w)) ?_
 refine TL.val rfl rfl rfl (pm_load (k := 1) rfl rfl agI rfl rfl) ?_
 refine TL.callsplit rfl rfl rfl rfl rfl Tryd.func46 nmWithin bdWithin (fun w1 hw => within_any (back) (2251799813685248) w1) (fun h23 => ?_) (fun h23 => ?_)
 refine TL.val rfl rfl rfl (gives_boolnot rfl rfl) ?_
 refine TL.val rfl rfl rfl (gives_assign rfl rfl) ?_
 refine TL.end_ (TX.then_ (TC.condF rfl (TC.seq_ (TC.region ?_))))
 refine TL.val rfl rfl rfl (gives_field rfl rfl (fun w => fR10 _ w)) ?_
 refine TL.val rfl rfl rfl (pm_load (k := 1) rfl rfl agI rfl rfl) ?_
 refine TL.val rfl rfl rfl (gives_field rfl rfl (fun w => fR3 _ w)) ?_
 refine TL.val rfl rfl rfl (pm_load (k := 1) rfl rfl agI rfl rfl) ?_
 refine TL.vsplit rfl rfl rfl (gives_bin rfl rfl rfl (fun w => bin_lss w)) (fun h29 => ?_) (fun h29 => ?_)
 refine TL.val rfl rfl rfl (gives_assign rfl rfl) ?_
 refine TL.end_ (TX.then_ (TC.condT rfl (TC.skip_ (TX.then_ (TC.condT rfl (TC.seq_ (TC.region ?_)))))))
 refine TL.val rfl rfl rfl (gives_assign rfl rfl) ?_
 refine TL.end_ (TX.then_ (TC.ret_ (TX.in_ret (TX.then_ret ?_))))
 refine ret_tmp Tryd.results14 rfl (fun w1 hw => ⟨congrArg (fun x => Ending.returned (.int .i64 x)) ?_, hw.bel⟩)
 rotate_left
 refine TL.val rfl rfl rfl (gives_assign rfl rfl) ?_
 refine TL.end_ (TX.then_ (TC.condF rfl (TC.seq_ (TC.region ?_))))
 refine TL.val rfl rfl rfl (gives_field rfl rfl (fun w => fR6 _ w)) ?_
 refine TL.val rfl rfl rfl (pm_load (k := 1) rfl rfl agI rfl rfl) ?_
 refine TL.callsplit rfl rfl rfl rfl rfl Tryd.func46 nmWithin bdWithin (fun w1 hw => within_any (flow) (1023) w1) (fun h32 => ?_) (fun h32 => ?_)
 refine TL.val rfl rfl rfl (gives_boolnot rfl rfl) ?_
 refine TL.val rfl rfl rfl (gives_assign rfl rfl) ?_
 refine TL.end_ (TX.then_ (TC.condF rfl (TC.region ?_)))
 refine TL.val rfl rfl rfl (gives_field rfl rfl (fun w => fR7 _ w)) ?_
 refine TL.val rfl rfl rfl (pm_load (k := 1) rfl rfl agI rfl rfl) ?_
 refine TL.vsplit rfl rfl rfl (gives_bin rfl rfl rfl (fun w => bin_lss w)) (fun h36 => ?_) (fun h36 => ?_)
 iterate 6 (first | refine TL.off rfl rfl rfl rfl rfl rfl ?_ | refine TL.val rfl rfl rfl (gives_move rfl rfl) ?_ | refine TL.val rfl rfl rfl (gives_pick rfl rfl rfl) ?_ | refine TL.val rfl rfl rfl (gives_assign rfl rfl) ?_)
 refine TL.end_ (TX.then_ (TC.condT rfl (TC.seq_ (TC.region ?_))))
 refine TL.val rfl rfl rfl (gives_assign rfl rfl) ?_
 refine TL.end_ (TX.then_ (TC.ret_ (TX.in_ret (TX.then_ret ?_))))
 refine ret_tmp Tryd.results14 rfl (fun w1 hw => ⟨congrArg (fun x => Ending.returned (.int .i64 x)) ?_, hw.bel⟩)
 rotate_left
 refine TL.val rfl rfl rfl (gives_move rfl rfl) ?_
 refine TL.on rfl rfl rfl ?_
 refine TL.val rfl rfl rfl (gives_field rfl rfl (fun w => fR7 _ w)) ?_
 refine TL.on rfl rfl rfl ?_
 refine TL.val rfl rfl rfl (pm_load (k := 1) rfl rfl agI rfl rfl) ?_
 refine TL.on rfl rfl rfl ?_
 refine TL.vsplit rfl rfl rfl (gives_bin rfl rfl rfl (fun w => bin_gtr w)) (fun h40 => ?_) (fun h40 => ?_)
 refine TL.val rfl rfl rfl (gives_pick rfl rfl rfl) ?_
 refine TL.val rfl rfl rfl (gives_assign rfl rfl) ?_
 refine TL.end_ (TX.then_ (TC.condT rfl (TC.seq_ (TC.region ?_))))
 refine TL.val rfl rfl rfl (gives_assign rfl rfl) ?_
 refine TL.end_ (TX.then_ (TC.ret_ (TX.in_ret (TX.then_ret ?_))))
 refine ret_tmp Tryd.results14 rfl (fun w1 hw => ⟨congrArg (fun x => Ending.returned (.int .i64 x)) ?_, hw.bel⟩)
 rotate_left
 refine TL.val rfl rfl rfl (gives_pick rfl rfl rfl) ?_
 refine TL.val rfl rfl rfl (gives_assign rfl rfl) ?_
 refine TL.end_ (TX.then_ (TC.condF rfl ?_))
 refine TC.join (α := {b : Bool // decide (proto ≠ 1 ∧ proto ≠ 6 ∧ proto ≠ 17) = b}) (fun x => [(1, .pointer (some ⟨g1, 0, none⟩)), (3, .pointer (some ⟨g3, 0, none⟩)), (42, .bool x.1)]) (fun x => Pm w [.blk g3 25 [.int .u32 src, .int .i64 kind, .int .i64 code, .int .i64 left, .int .i64 id, .int .i64 quo], .blk g1 27 [.int .i64 v, .int .i64 run, .int .i64 num, .int .i64 at_, .int .u32 dst, .int .i64 proto, .int .i64 flow, .int .i64 ttl, .bool true, .bool false, .int .i64 back, .int .u32 src, .int .i64 kind, .int .i64 code, .int .i64 left, .int .i64 id, .int .i64 quo]]) ?_ ?_
 refine TC.region ?_
 refine TL.val rfl rfl rfl (gives_field rfl rfl (fun w => fR5 _ w)) ?_
 refine TL.val rfl rfl rfl (pm_load (k := 1) rfl rfl agI rfl rfl) ?_
 refine TL.vsplit rfl rfl rfl (gives_bin rfl rfl rfl (fun w => bin_neq w)) (fun h45 => ?_) (fun h45 => ?_)
 refine TL.val rfl rfl rfl (gives_move rfl rfl) ?_
 refine TL.on rfl rfl rfl ?_
 refine TL.val rfl rfl rfl (gives_field rfl rfl (fun w => fR5 _ w)) ?_
 refine TL.on rfl rfl rfl ?_
 refine TL.val rfl rfl rfl (pm_load (k := 1) rfl rfl agI rfl rfl) ?_
 refine TL.on rfl rfl rfl ?_
 refine TL.vsplit rfl rfl rfl (gives_bin rfl rfl rfl (fun w => bin_neq w)) (fun h49 => ?_) (fun h49 => ?_)
 refine TL.val rfl rfl rfl (gives_pick rfl rfl rfl) ?_
 refine TL.val rfl rfl rfl (gives_move rfl rfl) ?_
 refine TL.on rfl rfl rfl ?_
 refine TL.val rfl rfl rfl (gives_field rfl rfl (fun w => fR5 _ w)) ?_
 refine TL.on rfl rfl rfl ?_
 refine TL.val rfl rfl rfl (pm_load (k := 1) rfl rfl agI rfl rfl) ?_
 refine TL.on rfl rfl rfl ?_
 refine TL.vsplit rfl rfl rfl (gives_bin rfl rfl rfl (fun w => bin_neq w)) (fun h54 => ?_) (fun h54 => ?_)
 refine TL.val rfl rfl rfl (gives_pick rfl rfl rfl) ?_
 refine TL.val rfl rfl rfl (gives_assign rfl rfl) ?_
 refine TL.end_ ?_
 exact TX.joined (⟨true, by simp only [decide_eq_true_eq, decide_eq_false_iff_not] at *; first | omega | (apply decide_eq_true; omega) | (apply decide_eq_false; omega)⟩) (⟨rfl, rfl, rfl, trivial⟩) (fun w hw => hw)
 refine TL.val rfl rfl rfl (gives_pick rfl rfl rfl) ?_
 refine TL.val rfl rfl rfl (gives_assign rfl rfl) ?_
 refine TL.end_ ?_
 exact TX.joined (⟨false, by simp only [decide_eq_true_eq, decide_eq_false_iff_not] at *; first | omega | (apply decide_eq_true; omega) | (apply decide_eq_false; omega)⟩) (⟨rfl, rfl, rfl, trivial⟩) (fun w hw => hw)
 iterate 7 (first | refine TL.off rfl rfl rfl rfl rfl rfl ?_ | refine TL.val rfl rfl rfl (gives_pick rfl rfl rfl) ?_ | refine TL.val rfl rfl rfl (gives_move rfl rfl) ?_ | refine TL.val rfl rfl rfl (gives_assign rfl rfl) ?_)
 refine TL.end_ ?_
 exact TX.joined (⟨false, by simp only [decide_eq_true_eq, decide_eq_false_iff_not] at *; first | omega | (apply decide_eq_true; omega) | (apply decide_eq_false; omega)⟩) (⟨rfl, rfl, rfl, trivial⟩) (fun w hw => hw)
 iterate 11 (first | refine TL.off rfl rfl rfl rfl rfl rfl ?_ | refine TL.val rfl rfl rfl (gives_move rfl rfl) ?_ | refine TL.val rfl rfl rfl (gives_pick rfl rfl rfl) ?_ | refine TL.val rfl rfl rfl (gives_assign rfl rfl) ?_)
 refine TL.end_ ?_
 exact TX.joined (⟨false, by simp only [decide_eq_true_eq, decide_eq_false_iff_not] at *; first | omega | (apply decide_eq_true; omega) | (apply decide_eq_false; omega)⟩) (⟨rfl, rfl, rfl, trivial⟩) (fun w hw => hw)
 rintro ⟨b, hb⟩
 dsimp only
 cases b
 refine TC.condF rfl (TC.seq_ (TC.seq_ (TC.region ?_)))
 refine TL.val rfl rfl rfl (gives_field rfl rfl (fun w => fR9 _ w)) ?_
 refine TL.val rfl rfl rfl (pm_load (k := 1) rfl rfl agB rfl rfl) ?_
 iterate 6 (first | refine TL.off rfl rfl rfl rfl rfl rfl ?_ | refine TL.val rfl rfl rfl (gives_move rfl rfl) ?_ | refine TL.val rfl rfl rfl (gives_pick rfl rfl rfl) ?_ | refine TL.val rfl rfl rfl (gives_assign rfl rfl) ?_)
 refine TL.end_ (TX.then_ (TC.condF rfl (TC.region ?_)))
 refine TL.val rfl rfl rfl (gives_field rfl rfl (fun w => fR8 _ w)) ?_
 refine TL.val rfl rfl rfl (pm_load (k := 1) rfl rfl agB rfl rfl) ?_
 iterate 7 (first | refine TL.off rfl rfl rfl rfl rfl rfl ?_ | refine TL.val rfl rfl rfl (gives_move rfl rfl) ?_ | refine TL.val rfl rfl rfl (gives_pick rfl rfl rfl) ?_ | refine TL.val rfl rfl rfl (gives_assign rfl rfl) ?_ | refine TL.val rfl rfl rfl (gives_boolnot rfl rfl) ?_)
 refine TL.end_ (TX.then_ (TC.condF rfl (TC.seq_ (TC.region ?_))))
 refine TL.val rfl rfl rfl (gives_field rfl rfl (fun w => fR8 _ w)) ?_
 refine TL.val rfl rfl rfl (pm_load (k := 1) rfl rfl agB rfl rfl) ?_
 refine TL.val rfl rfl rfl (gives_move rfl rfl) ?_
 refine TL.on rfl rfl rfl ?_
 refine TL.val rfl rfl rfl (gives_field rfl rfl (fun w => fA1 _ w)) ?_
 refine TL.on rfl rfl rfl ?_
 refine TL.val rfl rfl rfl (pm_load (k := 0) rfl rfl agI rfl rfl) ?_
 refine TL.on rfl rfl rfl ?_
 refine TL.vsplit rfl rfl rfl (gives_bin rfl rfl rfl (fun w => bin_lss w)) (fun h78 => ?_) (fun h78 => ?_)
 iterate 41 (first | refine TL.off rfl rfl rfl rfl rfl rfl ?_ | refine TL.on rfl rfl rfl ?_ | refine TL.val rfl rfl rfl (gives_pick rfl rfl rfl) ?_ | refine TL.val rfl rfl rfl (gives_move rfl rfl) ?_ | refine TL.val rfl rfl rfl (gives_assign rfl rfl) ?_)
 refine TL.end_ (TX.then_ (TC.condT rfl (TC.seq_ (TC.region ?_))))
 refine TL.val rfl rfl rfl (gives_assign rfl rfl) ?_
 refine TL.end_ (TX.then_ (TC.ret_ (TX.in_ret (TX.then_ret ?_))))
 refine ret_tmp Tryd.results14 rfl (fun w1 hw => ⟨congrArg (fun x => Ending.returned (.int .i64 x)) ?_, hw.bel⟩)
 rotate_left
 refine TL.on rfl rfl rfl ?_
 refine TL.val rfl rfl rfl (gives_move rfl rfl) ?_
 refine TL.on rfl rfl rfl ?_
 refine TL.val rfl rfl rfl (gives_field rfl rfl (fun w => fA1 _ w)) ?_
 refine TL.on rfl rfl rfl ?_
 refine TL.val rfl rfl rfl (pm_load (k := 0) rfl rfl agI rfl rfl) ?_
 refine TL.on rfl rfl rfl ?_
 refine TL.vsplit rfl rfl rfl (gives_bin rfl rfl rfl (fun w => bin_gtr w)) (fun h82 => ?_) (fun h82 => ?_)
 iterate 36 (first | refine TL.off rfl rfl rfl rfl rfl rfl ?_ | refine TL.on rfl rfl rfl ?_ | refine TL.val rfl rfl rfl (gives_pick rfl rfl rfl) ?_ | refine TL.val rfl rfl rfl (gives_move rfl rfl) ?_ | refine TL.val rfl rfl rfl (gives_assign rfl rfl) ?_)
 refine TL.end_ (TX.then_ (TC.condT rfl (TC.seq_ (TC.region ?_))))
 refine TL.val rfl rfl rfl (gives_assign rfl rfl) ?_
 refine TL.end_ (TX.then_ (TC.ret_ (TX.in_ret (TX.then_ret ?_))))
 refine ret_tmp Tryd.results14 rfl (fun w1 hw => ⟨congrArg (fun x => Ending.returned (.int .i64 x)) ?_, hw.bel⟩)
 rotate_left
 iterate 5 (first | refine TL.on rfl rfl rfl ?_ | refine TL.val rfl rfl rfl (gives_move rfl rfl) ?_ | refine TL.val rfl rfl rfl (gives_pick rfl rfl rfl) ?_)
 refine TL.val rfl rfl rfl (gives_field rfl rfl (fun w => fA2 _ w)) ?_
 refine TL.on rfl rfl rfl ?_
 refine TL.val rfl rfl rfl (pm_load (k := 0) rfl rfl agI rfl rfl) ?_
 refine TL.on rfl rfl rfl ?_
 refine TL.callsplit rfl rfl rfl rfl rfl Tryd.func46 nmWithin bdWithin (fun w1 hw => within_any (code) (255) w1) (fun h87 => ?_) (fun h87 => ?_)
 iterate 7 (first | refine TL.on rfl rfl rfl ?_ | refine TL.val rfl rfl rfl (gives_move rfl rfl) ?_ | refine TL.val rfl rfl rfl (gives_pick rfl rfl rfl) ?_ | refine TL.val rfl rfl rfl (gives_boolnot rfl rfl) ?_)
 refine TL.val rfl rfl rfl (gives_field rfl rfl (fun w => fA3 _ w)) ?_
 refine TL.on rfl rfl rfl ?_
 refine TL.val rfl rfl rfl (pm_load (k := 0) rfl rfl agI rfl rfl) ?_
 refine TL.on rfl rfl rfl ?_
 refine TL.callsplit rfl rfl rfl rfl rfl Tryd.func46 nmWithin bdWithin (fun w1 hw => within_any (left) (255) w1) (fun h93 => ?_) (fun h93 => ?_)
 iterate 7 (first | refine TL.on rfl rfl rfl ?_ | refine TL.val rfl rfl rfl (gives_move rfl rfl) ?_ | refine TL.val rfl rfl rfl (gives_pick rfl rfl rfl) ?_ | refine TL.val rfl rfl rfl (gives_boolnot rfl rfl) ?_)
 refine TL.val rfl rfl rfl (gives_field rfl rfl (fun w => fA5 _ w)) ?_
 refine TL.on rfl rfl rfl ?_
 refine TL.val rfl rfl rfl (pm_load (k := 0) rfl rfl agI rfl rfl) ?_
 refine TL.on rfl rfl rfl ?_
 refine TL.callsplit rfl rfl rfl rfl rfl Tryd.func46 nmWithin bdWithin (fun w1 hw => within_any (quo) (255) w1) (fun h99 => ?_) (fun h99 => ?_)
 iterate 7 (first | refine TL.on rfl rfl rfl ?_ | refine TL.val rfl rfl rfl (gives_move rfl rfl) ?_ | refine TL.val rfl rfl rfl (gives_pick rfl rfl rfl) ?_ | refine TL.val rfl rfl rfl (gives_boolnot rfl rfl) ?_)
 refine TL.val rfl rfl rfl (gives_field rfl rfl (fun w => fA4 _ w)) ?_
 refine TL.on rfl rfl rfl ?_
 refine TL.val rfl rfl rfl (pm_load (k := 0) rfl rfl agI rfl rfl) ?_
 refine TL.on rfl rfl rfl ?_
 refine TL.callsplit rfl rfl rfl rfl rfl Tryd.func46 nmWithin bdWithin (fun w1 hw => within_any (id) (65535) w1) (fun h105 => ?_) (fun h105 => ?_)
 iterate 6 (first | refine TL.on rfl rfl rfl ?_ | refine TL.val rfl rfl rfl (gives_pick rfl rfl rfl) ?_ | refine TL.val rfl rfl rfl (gives_assign rfl rfl) ?_ | refine TL.val rfl rfl rfl (gives_boolnot rfl rfl) ?_)
 refine TL.end_ (TX.then_ (TC.condF rfl (TC.skip_ (TX.in_normal (TX.then_ (TC.seq_ (TC.region ?_)))))))
 refine TL.val rfl rfl rfl (gives_assign rfl rfl) ?_
 refine TL.end_ (TX.then_ (TC.ret_ ?_))
 refine ret_tmp Tryd.results14 rfl (fun w1 hw => ⟨congrArg (fun x => Ending.returned (.int .i64 x)) ?_, hw.bel⟩)
 rotate_left
 iterate 6 (first | refine TL.on rfl rfl rfl ?_ | refine TL.val rfl rfl rfl (gives_pick rfl rfl rfl) ?_ | refine TL.val rfl rfl rfl (gives_assign rfl rfl) ?_ | refine TL.val rfl rfl rfl (gives_boolnot rfl rfl) ?_)
 refine TL.end_ (TX.then_ (TC.condT rfl (TC.seq_ (TC.region ?_))))
 refine TL.val rfl rfl rfl (gives_assign rfl rfl) ?_
 refine TL.end_ (TX.then_ (TC.ret_ (TX.in_ret (TX.then_ret ?_))))
 refine ret_tmp Tryd.results14 rfl (fun w1 hw => ⟨congrArg (fun x => Ending.returned (.int .i64 x)) ?_, hw.bel⟩)
 rotate_left
 iterate 14 (first | refine TL.off rfl rfl rfl rfl rfl rfl ?_ | refine TL.on rfl rfl rfl ?_ | refine TL.val rfl rfl rfl (gives_pick rfl rfl rfl) ?_ | refine TL.val rfl rfl rfl (gives_move rfl rfl) ?_ | refine TL.val rfl rfl rfl (gives_assign rfl rfl) ?_ | refine TL.val rfl rfl rfl (gives_boolnot rfl rfl) ?_)
 refine TL.end_ (TX.then_ (TC.condT rfl (TC.seq_ (TC.region ?_))))
 refine TL.val rfl rfl rfl (gives_assign rfl rfl) ?_
 refine TL.end_ (TX.then_ (TC.ret_ (TX.in_ret (TX.then_ret ?_))))
 refine ret_tmp Tryd.results14 rfl (fun w1 hw => ⟨congrArg (fun x => Ending.returned (.int .i64 x)) ?_, hw.bel⟩)
 rotate_left
 iterate 22 (first | refine TL.off rfl rfl rfl rfl rfl rfl ?_ | refine TL.on rfl rfl rfl ?_ | refine TL.val rfl rfl rfl (gives_pick rfl rfl rfl) ?_ | refine TL.val rfl rfl rfl (gives_move rfl rfl) ?_ | refine TL.val rfl rfl rfl (gives_assign rfl rfl) ?_ | refine TL.val rfl rfl rfl (gives_boolnot rfl rfl) ?_)
 refine TL.end_ (TX.then_ (TC.condT rfl (TC.seq_ (TC.region ?_))))
 refine TL.val rfl rfl rfl (gives_assign rfl rfl) ?_
 refine TL.end_ (TX.then_ (TC.ret_ (TX.in_ret (TX.then_ret ?_))))
 refine ret_tmp Tryd.results14 rfl (fun w1 hw => ⟨congrArg (fun x => Ending.returned (.int .i64 x)) ?_, hw.bel⟩)
 rotate_left
 iterate 30 (first | refine TL.off rfl rfl rfl rfl rfl rfl ?_ | refine TL.on rfl rfl rfl ?_ | refine TL.val rfl rfl rfl (gives_pick rfl rfl rfl) ?_ | refine TL.val rfl rfl rfl (gives_move rfl rfl) ?_ | refine TL.val rfl rfl rfl (gives_assign rfl rfl) ?_ | refine TL.val rfl rfl rfl (gives_boolnot rfl rfl) ?_)
 refine TL.end_ (TX.then_ (TC.condT rfl (TC.seq_ (TC.region ?_))))
 refine TL.val rfl rfl rfl (gives_assign rfl rfl) ?_
 refine TL.end_ (TX.then_ (TC.ret_ (TX.in_ret (TX.then_ret ?_))))
 refine ret_tmp Tryd.results14 rfl (fun w1 hw => ⟨congrArg (fun x => Ending.returned (.int .i64 x)) ?_, hw.bel⟩)
 rotate_left
 refine TC.condT rfl (TC.seq_ (TC.region ?_))
 refine TL.val rfl rfl rfl (gives_assign rfl rfl) ?_
 refine TL.end_ (TX.then_ (TC.ret_ (TX.in_ret (TX.then_ret ?_))))
 refine ret_tmp Tryd.results14 rfl (fun w1 hw => ⟨congrArg (fun x => Ending.returned (.int .i64 x)) ?_, hw.bel⟩)
 rotate_left
 refine TL.val rfl rfl rfl (gives_boolnot rfl rfl) ?_
 refine TL.val rfl rfl rfl (gives_assign rfl rfl) ?_
 refine TL.end_ (TX.then_ (TC.condT rfl (TC.skip_ (TX.then_ (TC.condT rfl (TC.seq_ (TC.region ?_)))))))
 refine TL.val rfl rfl rfl (gives_assign rfl rfl) ?_
 refine TL.end_ (TX.then_ (TC.ret_ (TX.in_ret (TX.then_ret ?_))))
 refine ret_tmp Tryd.results14 rfl (fun w1 hw => ⟨congrArg (fun x => Ending.returned (.int .i64 x)) ?_, hw.bel⟩)
 rotate_left
 refine TL.val rfl rfl rfl (gives_boolnot rfl rfl) ?_
 refine TL.val rfl rfl rfl (gives_assign rfl rfl) ?_
 refine TL.end_ (TX.then_ (TC.condT rfl (TC.skip_ (TX.then_ (TC.condT rfl (TC.seq_ (TC.region ?_)))))))
 refine TL.val rfl rfl rfl (gives_assign rfl rfl) ?_
 refine TL.end_ (TX.then_ (TC.ret_ (TX.in_ret (TX.then_ret ?_))))
 refine ret_tmp Tryd.results14 rfl (fun w1 hw => ⟨congrArg (fun x => Ending.returned (.int .i64 x)) ?_, hw.bel⟩)
 rotate_left
 refine TL.val rfl rfl rfl (gives_boolnot rfl rfl) ?_
 refine TL.val rfl rfl rfl (gives_assign rfl rfl) ?_
 refine TL.end_ (TX.then_ (TC.condT rfl (TC.skip_ (TX.then_ (TC.condT rfl (TC.seq_ (TC.region ?_)))))))
 refine TL.val rfl rfl rfl (gives_assign rfl rfl) ?_
 refine TL.end_ (TX.then_ (TC.ret_ (TX.in_ret (TX.then_ret ?_))))
 refine ret_tmp Tryd.results14 rfl (fun w1 hw => ⟨congrArg (fun x => Ending.returned (.int .i64 x)) ?_, hw.bel⟩)
 rotate_left
 refine TL.val rfl rfl rfl (gives_boolnot rfl rfl) ?_
 refine TL.val rfl rfl rfl (gives_assign rfl rfl) ?_
 refine TL.end_ (TX.then_ (TC.condT rfl (TC.skip_ (TX.then_ (TC.condT rfl (TC.seq_ (TC.region ?_)))))))
 refine TL.val rfl rfl rfl (gives_assign rfl rfl) ?_
 refine TL.end_ (TX.then_ (TC.ret_ (TX.in_ret (TX.then_ret ?_))))
 refine ret_tmp Tryd.results14 rfl (fun w1 hw => ⟨congrArg (fun x => Ending.returned (.int .i64 x)) ?_, hw.bel⟩)
 rotate_left
 refine TL.val rfl rfl rfl (gives_boolnot rfl rfl) ?_
 refine TL.val rfl rfl rfl (gives_assign rfl rfl) ?_
 refine TL.end_ (TX.then_ (TC.condT rfl (TC.skip_ (TX.then_ (TC.condT rfl (TC.seq_ (TC.region ?_)))))))
 refine TL.val rfl rfl rfl (gives_assign rfl rfl) ?_
 refine TL.end_ (TX.then_ (TC.ret_ (TX.in_ret (TX.then_ret ?_))))
 refine ret_tmp Tryd.results14 rfl (fun w1 hw => ⟨congrArg (fun x => Ending.returned (.int .i64 x)) ?_, hw.bel⟩)
 rotate_left
 all_goals (simp only [decide_eq_true_eq, decide_eq_false_iff_not] at *; first | exact chk_range (by unfold Rs.inRange; dsimp only; omega) | exact chk_ans rfl (by unfold Rs.inRange; dsimp only; omega) (by dsimp only; omega) (by unfold Rs.ansOk; dsimp only; omega) | (simp only [chkR, Rs.inRange, Rs.ansOk, Rs.noAns]; (try split) <;> (try split) <;> (try split) <;> (try split) <;> first | rfl | omega | (simp_all; done) | (simp_all; omega)))
set_option maxHeartbeats 2000000 in
theorem check_any_tt (v run num at_ dst proto flow ttl back src kind code left id quo : Int) (w : World) :
  Calls Tryd.prog 14 #[.agg #[.int .i64 v, .int .i64 run, .int .i64 num, .int .i64 at_, .int .u32 dst, .int .i64 proto, .int .i64 flow, .int .i64 ttl, .bool true, .bool true, .int .i64 back, .int .u32 src, .int .i64 kind, .int .i64 code, .int .i64 left, .int .i64 id, .int .i64 quo]] w fun e w' => e = .returned (.int .i64 (chkR ⟨v, run, num, at_, dst, proto, flow, ttl, true, true, back, src, kind, code, left, id, quo⟩)) ∧ Below w.heap.size w w' := by
 refine begin_ (vs := [.agg #[.int .i64 v, .int .i64 run, .int .i64 num, .int .i64 at_, .int .u32 dst, .int .i64 proto, .int .i64 flow, .int .i64 ttl, .bool true, .bool true, .int .i64 back, .int .u32 src, .int .i64 kind, .int .i64 code, .int .i64 left, .int .i64 id, .int .i64 quo]]) Tryd.func14 rfl rfl rfl ?_ (Pm.start w)
 refine TC.seq_ (TC.region ?_)
 refine TL.pnew rfl rfl rfl (exec_box (cs := [.int .i64 v, .int .i64 run, .int .i64 num, .int .i64 at_, .int .u32 dst, .int .i64 proto, .int .i64 flow, .int .i64 ttl, .bool true, .bool true, .int .i64 back, .int .u32 src, .int .i64 kind, .int .i64 code, .int .i64 left, .int .i64 id, .int .i64 quo]) rfl rfl rfl) (fun g1 => ?_)
 refine TL.val rfl rfl rfl (gives_assign rfl rfl) ?_
 refine TL.end_ (TX.then_ (TC.seq_ (TC.region ?_)))
 refine TL.val rfl rfl rfl (gives_field rfl rfl (fun w => fR11 _ w)) ?_
 refine TL.val rfl rfl rfl (pm_loadAgg (k := 0) (n := 6) rfl rfl agA szA rfl (Nat.le_refl 17)) ?_
 refine TL.pnew rfl rfl rfl (exec_alloc (cs := [.int .u32 0, .int .i64 0, .int .i64 0, .int .i64 0, .int .i64 0, .int .i64 0]) rfl zeroA rfl) (fun g3 => ?_)
 refine TL.pstore (k := 0) (vs := [.int .u32 src, .int .i64 kind, .int .i64 code, .int .i64 left, .int .i64 id, .int .i64 quo]) rfl rfl rfl rfl rfl rfl rfl szA (oneA _ _ _ _ _ _) (Nat.le_refl 6) (L' := [.blk g3 25 [.int .u32 src, .int .i64 kind, .int .i64 code, .int .i64 left, .int .i64 id, .int .i64 quo], .blk g1 27 [.int .i64 v, .int .i64 run, .int .i64 num, .int .i64 at_, .int .u32 dst, .int .i64 proto, .int .i64 flow, .int .i64 ttl, .bool true, .bool true, .int .i64 back, .int .u32 src, .int .i64 kind, .int .i64 code, .int .i64 left, .int .i64 id, .int .i64 quo]]) rfl ?_
 refine TL.end_ (TX.then_ (TC.seq_ (TC.block (TC.seq_ (TC.seq_ (TC.region ?_))))))
 refine TL.val rfl rfl rfl (gives_field rfl rfl (fun w => fR0 _ w)) ?_
 refine TL.val rfl rfl rfl (pm_load (k := 1) rfl rfl agI rfl rfl) ?_
 refine TL.val rfl rfl rfl (gives_field rfl rfl (fun w => fR1 _ w)) ?_
 refine TL.val rfl rfl rfl (pm_load (k := 1) rfl rfl agI rfl rfl) ?_
 refine TL.callsplit rfl rfl rfl rfl rfl Tryd.func45 nmRun bdRun (fun w1 hw => run_any v run w1) (fun h11 => ?_) (fun h11 => ?_)
 refine TL.val rfl rfl rfl (gives_boolnot rfl rfl) ?_
 refine TL.val rfl rfl rfl (gives_assign rfl rfl) ?_
 refine TL.end_ (TX.then_ (TC.condF rfl (TC.seq_ (TC.region ?_))))
 refine TL.val rfl rfl rfl (gives_field rfl rfl (fun w => fR2 _ w)) ?_
 refine TL.val rfl rfl rfl (pm_load (k := 1) rfl rfl agI rfl rfl) ?_
 refine TL.callsplit rfl rfl rfl rfl rfl Tryd.func46 nmWithin bdWithin (fun w1 hw => within_any (num) (999) w1) (fun h15 => ?_) (fun h15 => ?_)
 refine TL.val rfl rfl rfl (gives_boolnot rfl rfl) ?_
 refine TL.val rfl rfl rfl (gives_assign rfl rfl) ?_
 refine TL.end_ (TX.then_ (TC.condF rfl (TC.seq_ (TC.region ?_))))
 refine TL.val rfl rfl rfl (gives_field rfl rfl (fun w => fR3 _ w)) ?_
 refine TL.val rfl rfl rfl (pm_load (k := 1) rfl rfl agI rfl rfl) ?_
 refine TL.callsplit rfl rfl rfl rfl rfl Tryd.func46 nmWithin bdWithin (fun w1 hw => within_any (at_) (2251799813685248) w1) (fun h19 => ?_) (fun h19 => ?_)
 refine TL.val rfl rfl rfl (gives_boolnot rfl rfl) ?_
 refine TL.val rfl rfl rfl (gives_assign rfl rfl) ?_
 refine TL.end_ (TX.then_ (TC.condF rfl (TC.seq_ (TC.region ?_))))
 refine TL.val rfl rfl rfl (gives_field rfl rfl (fun w => fR10 _ w)) ?_
 refine TL.val rfl rfl rfl (pm_load (k := 1) rfl rfl agI rfl rfl) ?_
 refine TL.callsplit rfl rfl rfl rfl rfl Tryd.func46 nmWithin bdWithin (fun w1 hw => within_any (back) (2251799813685248) w1) (fun h23 => ?_) (fun h23 => ?_)
 refine TL.val rfl rfl rfl (gives_boolnot rfl rfl) ?_
 refine TL.val rfl rfl rfl (gives_assign rfl rfl) ?_
 refine TL.end_ (TX.then_ (TC.condF rfl (TC.seq_ (TC.region ?_))))
 refine TL.val rfl rfl rfl (gives_field rfl rfl (fun w => fR10 _ w)) ?_
 refine TL.val rfl rfl rfl (pm_load (k := 1) rfl rfl agI rfl rfl) ?_
 refine TL.val rfl rfl rfl (gives_field rfl rfl (fun w => fR3 _ w)) ?_
 refine TL.val rfl rfl rfl (pm_load (k := 1) rfl rfl agI rfl rfl) ?_
 refine TL.vsplit rfl rfl rfl (gives_bin rfl rfl rfl (fun w => bin_lss w)) (fun h29 => ?_) (fun h29 => ?_)
 refine TL.val rfl rfl rfl (gives_assign rfl rfl) ?_
 refine TL.end_ (TX.then_ (TC.condT rfl (TC.skip_ (TX.then_ (TC.condT rfl (TC.seq_ (TC.region ?_)))))))
 refine TL.val rfl rfl rfl (gives_assign rfl rfl) ?_
 refine TL.end_ (TX.then_ (TC.ret_ (TX.in_ret (TX.then_ret ?_))))
 refine ret_tmp Tryd.results14 rfl (fun w1 hw => ⟨congrArg (fun x => Ending.returned (.int .i64 x)) ?_, hw.bel⟩)
 rotate_left
 refine TL.val rfl rfl rfl (gives_assign rfl rfl) ?_
 refine TL.end_ (TX.then_ (TC.condF rfl (TC.seq_ (TC.region ?_))))
 refine TL.val rfl rfl rfl (gives_field rfl rfl (fun w => fR6 _ w)) ?_
 refine TL.val rfl rfl rfl (pm_load (k := 1) rfl rfl agI rfl rfl) ?_
 refine TL.callsplit rfl rfl rfl rfl rfl Tryd.func46 nmWithin bdWithin (fun w1 hw => within_any (flow) (1023) w1) (fun h32 => ?_) (fun h32 => ?_)
 refine TL.val rfl rfl rfl (gives_boolnot rfl rfl) ?_
 refine TL.val rfl rfl rfl (gives_assign rfl rfl) ?_
 refine TL.end_ (TX.then_ (TC.condF rfl (TC.region ?_)))
 refine TL.val rfl rfl rfl (gives_field rfl rfl (fun w => fR7 _ w)) ?_
 refine TL.val rfl rfl rfl (pm_load (k := 1) rfl rfl agI rfl rfl) ?_
 refine TL.vsplit rfl rfl rfl (gives_bin rfl rfl rfl (fun w => bin_lss w)) (fun h36 => ?_) (fun h36 => ?_)
 iterate 6 (first | refine TL.off rfl rfl rfl rfl rfl rfl ?_ | refine TL.val rfl rfl rfl (gives_move rfl rfl) ?_ | refine TL.val rfl rfl rfl (gives_pick rfl rfl rfl) ?_ | refine TL.val rfl rfl rfl (gives_assign rfl rfl) ?_)
 refine TL.end_ (TX.then_ (TC.condT rfl (TC.seq_ (TC.region ?_))))
 refine TL.val rfl rfl rfl (gives_assign rfl rfl) ?_
 refine TL.end_ (TX.then_ (TC.ret_ (TX.in_ret (TX.then_ret ?_))))
 refine ret_tmp Tryd.results14 rfl (fun w1 hw => ⟨congrArg (fun x => Ending.returned (.int .i64 x)) ?_, hw.bel⟩)
 rotate_left
 refine TL.val rfl rfl rfl (gives_move rfl rfl) ?_
 refine TL.on rfl rfl rfl ?_
 refine TL.val rfl rfl rfl (gives_field rfl rfl (fun w => fR7 _ w)) ?_
 refine TL.on rfl rfl rfl ?_
 refine TL.val rfl rfl rfl (pm_load (k := 1) rfl rfl agI rfl rfl) ?_
 refine TL.on rfl rfl rfl ?_
 refine TL.vsplit rfl rfl rfl (gives_bin rfl rfl rfl (fun w => bin_gtr w)) (fun h40 => ?_) (fun h40 => ?_)
 refine TL.val rfl rfl rfl (gives_pick rfl rfl rfl) ?_
 refine TL.val rfl rfl rfl (gives_assign rfl rfl) ?_
 refine TL.end_ (TX.then_ (TC.condT rfl (TC.seq_ (TC.region ?_))))
 refine TL.val rfl rfl rfl (gives_assign rfl rfl) ?_
 refine TL.end_ (TX.then_ (TC.ret_ (TX.in_ret (TX.then_ret ?_))))
 refine ret_tmp Tryd.results14 rfl (fun w1 hw => ⟨congrArg (fun x => Ending.returned (.int .i64 x)) ?_, hw.bel⟩)
 rotate_left
 refine TL.val rfl rfl rfl (gives_pick rfl rfl rfl) ?_
 refine TL.val rfl rfl rfl (gives_assign rfl rfl) ?_
 refine TL.end_ (TX.then_ (TC.condF rfl ?_))
 refine TC.join (α := {b : Bool // decide (proto ≠ 1 ∧ proto ≠ 6 ∧ proto ≠ 17) = b}) (fun x => [(1, .pointer (some ⟨g1, 0, none⟩)), (3, .pointer (some ⟨g3, 0, none⟩)), (42, .bool x.1)]) (fun x => Pm w [.blk g3 25 [.int .u32 src, .int .i64 kind, .int .i64 code, .int .i64 left, .int .i64 id, .int .i64 quo], .blk g1 27 [.int .i64 v, .int .i64 run, .int .i64 num, .int .i64 at_, .int .u32 dst, .int .i64 proto, .int .i64 flow, .int .i64 ttl, .bool true, .bool true, .int .i64 back, .int .u32 src, .int .i64 kind, .int .i64 code, .int .i64 left, .int .i64 id, .int .i64 quo]]) ?_ ?_
 refine TC.region ?_
 refine TL.val rfl rfl rfl (gives_field rfl rfl (fun w => fR5 _ w)) ?_
 refine TL.val rfl rfl rfl (pm_load (k := 1) rfl rfl agI rfl rfl) ?_
 refine TL.vsplit rfl rfl rfl (gives_bin rfl rfl rfl (fun w => bin_neq w)) (fun h45 => ?_) (fun h45 => ?_)
 refine TL.val rfl rfl rfl (gives_move rfl rfl) ?_
 refine TL.on rfl rfl rfl ?_
 refine TL.val rfl rfl rfl (gives_field rfl rfl (fun w => fR5 _ w)) ?_
 refine TL.on rfl rfl rfl ?_
 refine TL.val rfl rfl rfl (pm_load (k := 1) rfl rfl agI rfl rfl) ?_
 refine TL.on rfl rfl rfl ?_
 refine TL.vsplit rfl rfl rfl (gives_bin rfl rfl rfl (fun w => bin_neq w)) (fun h49 => ?_) (fun h49 => ?_)
 refine TL.val rfl rfl rfl (gives_pick rfl rfl rfl) ?_
 refine TL.val rfl rfl rfl (gives_move rfl rfl) ?_
 refine TL.on rfl rfl rfl ?_
 refine TL.val rfl rfl rfl (gives_field rfl rfl (fun w => fR5 _ w)) ?_
 refine TL.on rfl rfl rfl ?_
 refine TL.val rfl rfl rfl (pm_load (k := 1) rfl rfl agI rfl rfl) ?_
 refine TL.on rfl rfl rfl ?_
 refine TL.vsplit rfl rfl rfl (gives_bin rfl rfl rfl (fun w => bin_neq w)) (fun h54 => ?_) (fun h54 => ?_)
 refine TL.val rfl rfl rfl (gives_pick rfl rfl rfl) ?_
 refine TL.val rfl rfl rfl (gives_assign rfl rfl) ?_
 refine TL.end_ ?_
 exact TX.joined (⟨true, by simp only [decide_eq_true_eq, decide_eq_false_iff_not] at *; first | omega | (apply decide_eq_true; omega) | (apply decide_eq_false; omega)⟩) (⟨rfl, rfl, rfl, trivial⟩) (fun w hw => hw)
 refine TL.val rfl rfl rfl (gives_pick rfl rfl rfl) ?_
 refine TL.val rfl rfl rfl (gives_assign rfl rfl) ?_
 refine TL.end_ ?_
 exact TX.joined (⟨false, by simp only [decide_eq_true_eq, decide_eq_false_iff_not] at *; first | omega | (apply decide_eq_true; omega) | (apply decide_eq_false; omega)⟩) (⟨rfl, rfl, rfl, trivial⟩) (fun w hw => hw)
 iterate 7 (first | refine TL.off rfl rfl rfl rfl rfl rfl ?_ | refine TL.val rfl rfl rfl (gives_pick rfl rfl rfl) ?_ | refine TL.val rfl rfl rfl (gives_move rfl rfl) ?_ | refine TL.val rfl rfl rfl (gives_assign rfl rfl) ?_)
 refine TL.end_ ?_
 exact TX.joined (⟨false, by simp only [decide_eq_true_eq, decide_eq_false_iff_not] at *; first | omega | (apply decide_eq_true; omega) | (apply decide_eq_false; omega)⟩) (⟨rfl, rfl, rfl, trivial⟩) (fun w hw => hw)
 iterate 11 (first | refine TL.off rfl rfl rfl rfl rfl rfl ?_ | refine TL.val rfl rfl rfl (gives_move rfl rfl) ?_ | refine TL.val rfl rfl rfl (gives_pick rfl rfl rfl) ?_ | refine TL.val rfl rfl rfl (gives_assign rfl rfl) ?_)
 refine TL.end_ ?_
 exact TX.joined (⟨false, by simp only [decide_eq_true_eq, decide_eq_false_iff_not] at *; first | omega | (apply decide_eq_true; omega) | (apply decide_eq_false; omega)⟩) (⟨rfl, rfl, rfl, trivial⟩) (fun w hw => hw)
 rintro ⟨b, hb⟩
 dsimp only
 cases b
 refine TC.condF rfl (TC.seq_ (TC.seq_ (TC.region ?_)))
 refine TL.val rfl rfl rfl (gives_field rfl rfl (fun w => fR9 _ w)) ?_
 refine TL.val rfl rfl rfl (pm_load (k := 1) rfl rfl agB rfl rfl) ?_
 refine TL.val rfl rfl rfl (gives_move rfl rfl) ?_
 refine TL.on rfl rfl rfl ?_
 refine TL.val rfl rfl rfl (gives_field rfl rfl (fun w => fR8 _ w)) ?_
 refine TL.on rfl rfl rfl ?_
 refine TL.val rfl rfl rfl (pm_load (k := 1) rfl rfl agB rfl rfl) ?_
 refine TL.on rfl rfl rfl ?_
 refine TL.val rfl rfl rfl (gives_boolnot rfl rfl) ?_
 refine TL.val rfl rfl rfl (gives_pick rfl rfl rfl) ?_
 refine TL.val rfl rfl rfl (gives_assign rfl rfl) ?_
 refine TL.end_ (TX.then_ (TC.condF rfl (TC.region ?_)))
 refine TL.val rfl rfl rfl (gives_field rfl rfl (fun w => fR8 _ w)) ?_
 refine TL.val rfl rfl rfl (pm_load (k := 1) rfl rfl agB rfl rfl) ?_
 iterate 7 (first | refine TL.off rfl rfl rfl rfl rfl rfl ?_ | refine TL.val rfl rfl rfl (gives_move rfl rfl) ?_ | refine TL.val rfl rfl rfl (gives_pick rfl rfl rfl) ?_ | refine TL.val rfl rfl rfl (gives_assign rfl rfl) ?_ | refine TL.val rfl rfl rfl (gives_boolnot rfl rfl) ?_)
 refine TL.end_ (TX.then_ (TC.condF rfl (TC.seq_ (TC.region ?_))))
 refine TL.val rfl rfl rfl (gives_field rfl rfl (fun w => fR8 _ w)) ?_
 refine TL.val rfl rfl rfl (pm_load (k := 1) rfl rfl agB rfl rfl) ?_
 refine TL.val rfl rfl rfl (gives_move rfl rfl) ?_
 refine TL.on rfl rfl rfl ?_
 refine TL.val rfl rfl rfl (gives_field rfl rfl (fun w => fA1 _ w)) ?_
 refine TL.on rfl rfl rfl ?_
 refine TL.val rfl rfl rfl (pm_load (k := 0) rfl rfl agI rfl rfl) ?_
 refine TL.on rfl rfl rfl ?_
 refine TL.vsplit rfl rfl rfl (gives_bin rfl rfl rfl (fun w => bin_lss w)) (fun h78 => ?_) (fun h78 => ?_)
 iterate 41 (first | refine TL.off rfl rfl rfl rfl rfl rfl ?_ | refine TL.on rfl rfl rfl ?_ | refine TL.val rfl rfl rfl (gives_pick rfl rfl rfl) ?_ | refine TL.val rfl rfl rfl (gives_move rfl rfl) ?_ | refine TL.val rfl rfl rfl (gives_assign rfl rfl) ?_)
 refine TL.end_ (TX.then_ (TC.condT rfl (TC.seq_ (TC.region ?_))))
 refine TL.val rfl rfl rfl (gives_assign rfl rfl) ?_
 refine TL.end_ (TX.then_ (TC.ret_ (TX.in_ret (TX.then_ret ?_))))
 refine ret_tmp Tryd.results14 rfl (fun w1 hw => ⟨congrArg (fun x => Ending.returned (.int .i64 x)) ?_, hw.bel⟩)
 rotate_left
 refine TL.on rfl rfl rfl ?_
 refine TL.val rfl rfl rfl (gives_move rfl rfl) ?_
 refine TL.on rfl rfl rfl ?_
 refine TL.val rfl rfl rfl (gives_field rfl rfl (fun w => fA1 _ w)) ?_
 refine TL.on rfl rfl rfl ?_
 refine TL.val rfl rfl rfl (pm_load (k := 0) rfl rfl agI rfl rfl) ?_
 refine TL.on rfl rfl rfl ?_
 refine TL.vsplit rfl rfl rfl (gives_bin rfl rfl rfl (fun w => bin_gtr w)) (fun h82 => ?_) (fun h82 => ?_)
 iterate 36 (first | refine TL.off rfl rfl rfl rfl rfl rfl ?_ | refine TL.on rfl rfl rfl ?_ | refine TL.val rfl rfl rfl (gives_pick rfl rfl rfl) ?_ | refine TL.val rfl rfl rfl (gives_move rfl rfl) ?_ | refine TL.val rfl rfl rfl (gives_assign rfl rfl) ?_)
 refine TL.end_ (TX.then_ (TC.condT rfl (TC.seq_ (TC.region ?_))))
 refine TL.val rfl rfl rfl (gives_assign rfl rfl) ?_
 refine TL.end_ (TX.then_ (TC.ret_ (TX.in_ret (TX.then_ret ?_))))
 refine ret_tmp Tryd.results14 rfl (fun w1 hw => ⟨congrArg (fun x => Ending.returned (.int .i64 x)) ?_, hw.bel⟩)
 rotate_left
 iterate 5 (first | refine TL.on rfl rfl rfl ?_ | refine TL.val rfl rfl rfl (gives_move rfl rfl) ?_ | refine TL.val rfl rfl rfl (gives_pick rfl rfl rfl) ?_)
 refine TL.val rfl rfl rfl (gives_field rfl rfl (fun w => fA2 _ w)) ?_
 refine TL.on rfl rfl rfl ?_
 refine TL.val rfl rfl rfl (pm_load (k := 0) rfl rfl agI rfl rfl) ?_
 refine TL.on rfl rfl rfl ?_
 refine TL.callsplit rfl rfl rfl rfl rfl Tryd.func46 nmWithin bdWithin (fun w1 hw => within_any (code) (255) w1) (fun h87 => ?_) (fun h87 => ?_)
 iterate 7 (first | refine TL.on rfl rfl rfl ?_ | refine TL.val rfl rfl rfl (gives_move rfl rfl) ?_ | refine TL.val rfl rfl rfl (gives_pick rfl rfl rfl) ?_ | refine TL.val rfl rfl rfl (gives_boolnot rfl rfl) ?_)
 refine TL.val rfl rfl rfl (gives_field rfl rfl (fun w => fA3 _ w)) ?_
 refine TL.on rfl rfl rfl ?_
 refine TL.val rfl rfl rfl (pm_load (k := 0) rfl rfl agI rfl rfl) ?_
 refine TL.on rfl rfl rfl ?_
 refine TL.callsplit rfl rfl rfl rfl rfl Tryd.func46 nmWithin bdWithin (fun w1 hw => within_any (left) (255) w1) (fun h93 => ?_) (fun h93 => ?_)
 iterate 7 (first | refine TL.on rfl rfl rfl ?_ | refine TL.val rfl rfl rfl (gives_move rfl rfl) ?_ | refine TL.val rfl rfl rfl (gives_pick rfl rfl rfl) ?_ | refine TL.val rfl rfl rfl (gives_boolnot rfl rfl) ?_)
 refine TL.val rfl rfl rfl (gives_field rfl rfl (fun w => fA5 _ w)) ?_
 refine TL.on rfl rfl rfl ?_
 refine TL.val rfl rfl rfl (pm_load (k := 0) rfl rfl agI rfl rfl) ?_
 refine TL.on rfl rfl rfl ?_
 refine TL.callsplit rfl rfl rfl rfl rfl Tryd.func46 nmWithin bdWithin (fun w1 hw => within_any (quo) (255) w1) (fun h99 => ?_) (fun h99 => ?_)
 iterate 7 (first | refine TL.on rfl rfl rfl ?_ | refine TL.val rfl rfl rfl (gives_move rfl rfl) ?_ | refine TL.val rfl rfl rfl (gives_pick rfl rfl rfl) ?_ | refine TL.val rfl rfl rfl (gives_boolnot rfl rfl) ?_)
 refine TL.val rfl rfl rfl (gives_field rfl rfl (fun w => fA4 _ w)) ?_
 refine TL.on rfl rfl rfl ?_
 refine TL.val rfl rfl rfl (pm_load (k := 0) rfl rfl agI rfl rfl) ?_
 refine TL.on rfl rfl rfl ?_
 refine TL.callsplit rfl rfl rfl rfl rfl Tryd.func46 nmWithin bdWithin (fun w1 hw => within_any (id) (65535) w1) (fun h105 => ?_) (fun h105 => ?_)
 iterate 6 (first | refine TL.on rfl rfl rfl ?_ | refine TL.val rfl rfl rfl (gives_pick rfl rfl rfl) ?_ | refine TL.val rfl rfl rfl (gives_assign rfl rfl) ?_ | refine TL.val rfl rfl rfl (gives_boolnot rfl rfl) ?_)
 refine TL.end_ (TX.then_ (TC.condF rfl (TC.skip_ (TX.in_normal (TX.then_ (TC.seq_ (TC.region ?_)))))))
 refine TL.val rfl rfl rfl (gives_assign rfl rfl) ?_
 refine TL.end_ (TX.then_ (TC.ret_ ?_))
 refine ret_tmp Tryd.results14 rfl (fun w1 hw => ⟨congrArg (fun x => Ending.returned (.int .i64 x)) ?_, hw.bel⟩)
 rotate_left
 iterate 6 (first | refine TL.on rfl rfl rfl ?_ | refine TL.val rfl rfl rfl (gives_pick rfl rfl rfl) ?_ | refine TL.val rfl rfl rfl (gives_assign rfl rfl) ?_ | refine TL.val rfl rfl rfl (gives_boolnot rfl rfl) ?_)
 refine TL.end_ (TX.then_ (TC.condT rfl (TC.seq_ (TC.region ?_))))
 refine TL.val rfl rfl rfl (gives_assign rfl rfl) ?_
 refine TL.end_ (TX.then_ (TC.ret_ (TX.in_ret (TX.then_ret ?_))))
 refine ret_tmp Tryd.results14 rfl (fun w1 hw => ⟨congrArg (fun x => Ending.returned (.int .i64 x)) ?_, hw.bel⟩)
 rotate_left
 iterate 14 (first | refine TL.off rfl rfl rfl rfl rfl rfl ?_ | refine TL.on rfl rfl rfl ?_ | refine TL.val rfl rfl rfl (gives_pick rfl rfl rfl) ?_ | refine TL.val rfl rfl rfl (gives_move rfl rfl) ?_ | refine TL.val rfl rfl rfl (gives_assign rfl rfl) ?_ | refine TL.val rfl rfl rfl (gives_boolnot rfl rfl) ?_)
 refine TL.end_ (TX.then_ (TC.condT rfl (TC.seq_ (TC.region ?_))))
 refine TL.val rfl rfl rfl (gives_assign rfl rfl) ?_
 refine TL.end_ (TX.then_ (TC.ret_ (TX.in_ret (TX.then_ret ?_))))
 refine ret_tmp Tryd.results14 rfl (fun w1 hw => ⟨congrArg (fun x => Ending.returned (.int .i64 x)) ?_, hw.bel⟩)
 rotate_left
 iterate 22 (first | refine TL.off rfl rfl rfl rfl rfl rfl ?_ | refine TL.on rfl rfl rfl ?_ | refine TL.val rfl rfl rfl (gives_pick rfl rfl rfl) ?_ | refine TL.val rfl rfl rfl (gives_move rfl rfl) ?_ | refine TL.val rfl rfl rfl (gives_assign rfl rfl) ?_ | refine TL.val rfl rfl rfl (gives_boolnot rfl rfl) ?_)
 refine TL.end_ (TX.then_ (TC.condT rfl (TC.seq_ (TC.region ?_))))
 refine TL.val rfl rfl rfl (gives_assign rfl rfl) ?_
 refine TL.end_ (TX.then_ (TC.ret_ (TX.in_ret (TX.then_ret ?_))))
 refine ret_tmp Tryd.results14 rfl (fun w1 hw => ⟨congrArg (fun x => Ending.returned (.int .i64 x)) ?_, hw.bel⟩)
 rotate_left
 iterate 30 (first | refine TL.off rfl rfl rfl rfl rfl rfl ?_ | refine TL.on rfl rfl rfl ?_ | refine TL.val rfl rfl rfl (gives_pick rfl rfl rfl) ?_ | refine TL.val rfl rfl rfl (gives_move rfl rfl) ?_ | refine TL.val rfl rfl rfl (gives_assign rfl rfl) ?_ | refine TL.val rfl rfl rfl (gives_boolnot rfl rfl) ?_)
 refine TL.end_ (TX.then_ (TC.condT rfl (TC.seq_ (TC.region ?_))))
 refine TL.val rfl rfl rfl (gives_assign rfl rfl) ?_
 refine TL.end_ (TX.then_ (TC.ret_ (TX.in_ret (TX.then_ret ?_))))
 refine ret_tmp Tryd.results14 rfl (fun w1 hw => ⟨congrArg (fun x => Ending.returned (.int .i64 x)) ?_, hw.bel⟩)
 rotate_left
 refine TC.condT rfl (TC.seq_ (TC.region ?_))
 refine TL.val rfl rfl rfl (gives_assign rfl rfl) ?_
 refine TL.end_ (TX.then_ (TC.ret_ (TX.in_ret (TX.then_ret ?_))))
 refine ret_tmp Tryd.results14 rfl (fun w1 hw => ⟨congrArg (fun x => Ending.returned (.int .i64 x)) ?_, hw.bel⟩)
 rotate_left
 refine TL.val rfl rfl rfl (gives_boolnot rfl rfl) ?_
 refine TL.val rfl rfl rfl (gives_assign rfl rfl) ?_
 refine TL.end_ (TX.then_ (TC.condT rfl (TC.skip_ (TX.then_ (TC.condT rfl (TC.seq_ (TC.region ?_)))))))
 refine TL.val rfl rfl rfl (gives_assign rfl rfl) ?_
 refine TL.end_ (TX.then_ (TC.ret_ (TX.in_ret (TX.then_ret ?_))))
 refine ret_tmp Tryd.results14 rfl (fun w1 hw => ⟨congrArg (fun x => Ending.returned (.int .i64 x)) ?_, hw.bel⟩)
 rotate_left
 refine TL.val rfl rfl rfl (gives_boolnot rfl rfl) ?_
 refine TL.val rfl rfl rfl (gives_assign rfl rfl) ?_
 refine TL.end_ (TX.then_ (TC.condT rfl (TC.skip_ (TX.then_ (TC.condT rfl (TC.seq_ (TC.region ?_)))))))
 refine TL.val rfl rfl rfl (gives_assign rfl rfl) ?_
 refine TL.end_ (TX.then_ (TC.ret_ (TX.in_ret (TX.then_ret ?_))))
 refine ret_tmp Tryd.results14 rfl (fun w1 hw => ⟨congrArg (fun x => Ending.returned (.int .i64 x)) ?_, hw.bel⟩)
 rotate_left
 refine TL.val rfl rfl rfl (gives_boolnot rfl rfl) ?_
 refine TL.val rfl rfl rfl (gives_assign rfl rfl) ?_
 refine TL.end_ (TX.then_ (TC.condT rfl (TC.skip_ (TX.then_ (TC.condT rfl (TC.seq_ (TC.region ?_)))))))
 refine TL.val rfl rfl rfl (gives_assign rfl rfl) ?_
 refine TL.end_ (TX.then_ (TC.ret_ (TX.in_ret (TX.then_ret ?_))))
 refine ret_tmp Tryd.results14 rfl (fun w1 hw => ⟨congrArg (fun x => Ending.returned (.int .i64 x)) ?_, hw.bel⟩)
 rotate_left
 refine TL.val rfl rfl rfl (gives_boolnot rfl rfl) ?_
 refine TL.val rfl rfl rfl (gives_assign rfl rfl) ?_
 refine TL.end_ (TX.then_ (TC.condT rfl (TC.skip_ (TX.then_ (TC.condT rfl (TC.seq_ (TC.region ?_)))))))
 refine TL.val rfl rfl rfl (gives_assign rfl rfl) ?_
 refine TL.end_ (TX.then_ (TC.ret_ (TX.in_ret (TX.then_ret ?_))))
 refine ret_tmp Tryd.results14 rfl (fun w1 hw => ⟨congrArg (fun x => Ending.returned (.int .i64 x)) ?_, hw.bel⟩)
 rotate_left
 refine TL.val rfl rfl rfl (gives_boolnot rfl rfl) ?_
 refine TL.val rfl rfl rfl (gives_assign rfl rfl) ?_
 refine TL.end_ (TX.then_ (TC.condT rfl (TC.skip_ (TX.then_ (TC.condT rfl (TC.seq_ (TC.region ?_)))))))
 refine TL.val rfl rfl rfl (gives_assign rfl rfl) ?_
 refine TL.end_ (TX.then_ (TC.ret_ (TX.in_ret (TX.then_ret ?_))))
 refine ret_tmp Tryd.results14 rfl (fun w1 hw => ⟨congrArg (fun x => Ending.returned (.int .i64 x)) ?_, hw.bel⟩)
 rotate_left
 all_goals (simp only [decide_eq_true_eq, decide_eq_false_iff_not] at *; first | exact chk_range (by unfold Rs.inRange; dsimp only; omega) | exact chk_ans rfl (by unfold Rs.inRange; dsimp only; omega) (by dsimp only; omega) (by unfold Rs.ansOk; dsimp only; omega) | (simp only [chkR, Rs.inRange, Rs.ansOk, Rs.noAns]; (try split) <;> (try split) <;> (try split) <;> (try split) <;> first | rfl | omega | (simp_all; done) | (simp_all; omega)))
theorem check_any (r : Rs) (w : World) :
  Calls Tryd.prog 14 #[.agg r.cells.toArray] w fun e w' => e = .returned (.int .i64 (chkR r)) ∧ Below w.heap.size w w' := by
 obtain ⟨v, run, num, at_, dst, proto, flow, ttl, ans, dbl, back, src, kind, code, left, id, quo⟩ := r
 cases ans <;> cases dbl
 ·exact check_any_ff v run num at_ dst proto flow ttl back src kind code left id quo w
 ·exact check_any_ft v run num at_ dst proto flow ttl back src kind code left id quo w
 ·exact check_any_tf v run num at_ dst proto flow ttl back src kind code left id quo w
 ·exact check_any_tt v run num at_ dst proto flow ttl back src kind code left id quo w
end Go.Proofs.YtmeaeeehnkcblaaDoor

namespace Go.Proofs.YtmeaeeehnkcblaaDoor
open Go.RowKit
set_option maxRecDepth 20000
set_option maxHeartbeats 2000000 in
theorem rcheck_any_ff (v run num at_ dst proto flow ttl back src kind code left id quo : Int) (w : World) :
  Calls Tryd.prog 15 #[.agg #[.int .i64 v, .int .i64 run, .int .i64 num, .int .i64 at_, .int .u32 dst, .int .i64 proto, .int .i64 flow, .int .i64 ttl, .bool false, .bool false, .int .i64 back, .int .u32 src, .int .i64 kind, .int .i64 code, .int .i64 left, .int .i64 id, .int .i64 quo]] w fun e w' => e = .returned (.int .i64 (chkR ⟨v, run, num, at_, dst, proto, flow, ttl, false, false, back, src, kind, code, left, id, quo⟩)) ∧ Below w.heap.size w w' := by
 refine begin_ (vs := [.agg #[.int .i64 v, .int .i64 run, .int .i64 num, .int .i64 at_, .int .u32 dst, .int .i64 proto, .int .i64 flow, .int .i64 ttl, .bool false, .bool false, .int .i64 back, .int .u32 src, .int .i64 kind, .int .i64 code, .int .i64 left, .int .i64 id, .int .i64 quo]]) Tryd.func15 rfl rfl rfl ?_ (Pm.start w)
 refine TC.seq_ (TC.region ?_)
 refine TL.pnew rfl rfl rfl (exec_box (cs := [.int .i64 v, .int .i64 run, .int .i64 num, .int .i64 at_, .int .u32 dst, .int .i64 proto, .int .i64 flow, .int .i64 ttl, .bool false, .bool false, .int .i64 back, .int .u32 src, .int .i64 kind, .int .i64 code, .int .i64 left, .int .i64 id, .int .i64 quo]) rfl rfl rfl) (fun g1 => ?_)
 refine TL.val rfl rfl rfl (gives_assign rfl rfl) ?_
 refine TL.end_ (TX.then_ (TC.seq_ (TC.seq_ (TC.region ?_))))
 refine TL.val rfl rfl rfl (gives_field rfl rfl (fun w => fR0 _ w)) ?_
 refine TL.val rfl rfl rfl (pm_load (k := 0) rfl rfl agI rfl rfl) ?_
 refine TL.val rfl rfl rfl (gives_field rfl rfl (fun w => fR1 _ w)) ?_
 refine TL.val rfl rfl rfl (pm_load (k := 0) rfl rfl agI rfl rfl) ?_
 refine TL.callsplit rfl rfl rfl rfl rfl Tryd.func47 nmIdent bdIdent (fun w1 hw => ident_any v run w1) (fun h8 => ?_) (fun h8 => ?_)
 refine TL.val rfl rfl rfl (gives_boolnot rfl rfl) ?_
 refine TL.val rfl rfl rfl (gives_move rfl rfl) ?_
 refine TL.on rfl rfl rfl ?_
 refine TL.val rfl rfl rfl (gives_field rfl rfl (fun w => fR2 _ w)) ?_
 refine TL.on rfl rfl rfl ?_
 refine TL.val rfl rfl rfl (pm_load (k := 0) rfl rfl agI rfl rfl) ?_
 refine TL.on rfl rfl rfl ?_
 refine TL.vsplit rfl rfl rfl (gives_bin rfl rfl rfl (fun w => bin_lss w)) (fun h13 => ?_) (fun h13 => ?_)
 iterate 48 (first | refine TL.off rfl rfl rfl rfl rfl rfl ?_ | refine TL.val rfl rfl rfl (gives_pick rfl rfl rfl) ?_ | refine TL.val rfl rfl rfl (gives_move rfl rfl) ?_)
 refine TL.end_ (TX.then_ (TC.condT rfl (TC.seq_ (TC.region ?_))))
 refine TL.val rfl rfl rfl (gives_assign rfl rfl) ?_
 refine TL.end_ (TX.then_ (TC.ret_ (TX.then_ret ?_)))
 refine ret_tmp Tryd.results15 rfl (fun w1 hw => ⟨congrArg (fun x => Ending.returned (.int .i64 x)) ?_, hw.bel⟩)
 rotate_left
 refine TL.val rfl rfl rfl (gives_pick rfl rfl rfl) ?_
 refine TL.val rfl rfl rfl (gives_move rfl rfl) ?_
 refine TL.on rfl rfl rfl ?_
 refine TL.val rfl rfl rfl (gives_field rfl rfl (fun w => fR2 _ w)) ?_
 refine TL.on rfl rfl rfl ?_
 refine TL.val rfl rfl rfl (pm_load (k := 0) rfl rfl agI rfl rfl) ?_
 refine TL.on rfl rfl rfl ?_
 refine TL.vsplit rfl rfl rfl (gives_bin rfl rfl rfl (fun w => bin_geq w)) (fun h18 => ?_) (fun h18 => ?_)
 iterate 43 (first | refine TL.off rfl rfl rfl rfl rfl rfl ?_ | refine TL.val rfl rfl rfl (gives_pick rfl rfl rfl) ?_ | refine TL.val rfl rfl rfl (gives_move rfl rfl) ?_)
 refine TL.end_ (TX.then_ (TC.condT rfl (TC.seq_ (TC.region ?_))))
 refine TL.val rfl rfl rfl (gives_assign rfl rfl) ?_
 refine TL.end_ (TX.then_ (TC.ret_ (TX.then_ret ?_)))
 refine ret_tmp Tryd.results15 rfl (fun w1 hw => ⟨congrArg (fun x => Ending.returned (.int .i64 x)) ?_, hw.bel⟩)
 rotate_left
 refine TL.val rfl rfl rfl (gives_pick rfl rfl rfl) ?_
 refine TL.val rfl rfl rfl (gives_move rfl rfl) ?_
 refine TL.on rfl rfl rfl ?_
 refine TL.val rfl rfl rfl (gives_field rfl rfl (fun w => fR3 _ w)) ?_
 refine TL.on rfl rfl rfl ?_
 refine TL.val rfl rfl rfl (pm_load (k := 0) rfl rfl agI rfl rfl) ?_
 refine TL.on rfl rfl rfl ?_
 refine TL.vsplit rfl rfl rfl (gives_bin rfl rfl rfl (fun w => bin_lss w)) (fun h23 => ?_) (fun h23 => ?_)
 iterate 38 (first | refine TL.off rfl rfl rfl rfl rfl rfl ?_ | refine TL.val rfl rfl rfl (gives_pick rfl rfl rfl) ?_ | refine TL.val rfl rfl rfl (gives_move rfl rfl) ?_)
 refine TL.end_ (TX.then_ (TC.condT rfl (TC.seq_ (TC.region ?_))))
 refine TL.val rfl rfl rfl (gives_assign rfl rfl) ?_
 refine TL.end_ (TX.then_ (TC.ret_ (TX.then_ret ?_)))
 refine ret_tmp Tryd.results15 rfl (fun w1 hw => ⟨congrArg (fun x => Ending.returned (.int .i64 x)) ?_, hw.bel⟩)
 rotate_left
 refine TL.val rfl rfl rfl (gives_pick rfl rfl rfl) ?_
 refine TL.val rfl rfl rfl (gives_move rfl rfl) ?_
 refine TL.on rfl rfl rfl ?_
 refine TL.val rfl rfl rfl (gives_field rfl rfl (fun w => fR3 _ w)) ?_
 refine TL.on rfl rfl rfl ?_
 refine TL.val rfl rfl rfl (pm_load (k := 0) rfl rfl agI rfl rfl) ?_
 refine TL.on rfl rfl rfl ?_
 refine TL.vsplit rfl rfl rfl (gives_bin rfl rfl rfl (fun w => bin_gtr w)) (fun h28 => ?_) (fun h28 => ?_)
 iterate 33 (first | refine TL.off rfl rfl rfl rfl rfl rfl ?_ | refine TL.val rfl rfl rfl (gives_pick rfl rfl rfl) ?_ | refine TL.val rfl rfl rfl (gives_move rfl rfl) ?_)
 refine TL.end_ (TX.then_ (TC.condT rfl (TC.seq_ (TC.region ?_))))
 refine TL.val rfl rfl rfl (gives_assign rfl rfl) ?_
 refine TL.end_ (TX.then_ (TC.ret_ (TX.then_ret ?_)))
 refine ret_tmp Tryd.results15 rfl (fun w1 hw => ⟨congrArg (fun x => Ending.returned (.int .i64 x)) ?_, hw.bel⟩)
 rotate_left
 refine TL.val rfl rfl rfl (gives_pick rfl rfl rfl) ?_
 refine TL.val rfl rfl rfl (gives_move rfl rfl) ?_
 refine TL.on rfl rfl rfl ?_
 refine TL.val rfl rfl rfl (gives_field rfl rfl (fun w => fR10 _ w)) ?_
 refine TL.on rfl rfl rfl ?_
 refine TL.val rfl rfl rfl (pm_load (k := 0) rfl rfl agI rfl rfl) ?_
 refine TL.on rfl rfl rfl ?_
 refine TL.val rfl rfl rfl (gives_field rfl rfl (fun w => fR3 _ w)) ?_
 refine TL.on rfl rfl rfl ?_
 refine TL.val rfl rfl rfl (pm_load (k := 0) rfl rfl agI rfl rfl) ?_
 refine TL.on rfl rfl rfl ?_
 refine TL.vsplit rfl rfl rfl (gives_bin rfl rfl rfl (fun w => bin_lss w)) (fun h35 => ?_) (fun h35 => ?_)
 iterate 26 (first | refine TL.off rfl rfl rfl rfl rfl rfl ?_ | refine TL.val rfl rfl rfl (gives_pick rfl rfl rfl) ?_ | refine TL.val rfl rfl rfl (gives_move rfl rfl) ?_)
 refine TL.end_ (TX.then_ (TC.condT rfl (TC.seq_ (TC.region ?_))))
 refine TL.val rfl rfl rfl (gives_assign rfl rfl) ?_
 refine TL.end_ (TX.then_ (TC.ret_ (TX.then_ret ?_)))
 refine ret_tmp Tryd.results15 rfl (fun w1 hw => ⟨congrArg (fun x => Ending.returned (.int .i64 x)) ?_, hw.bel⟩)
 rotate_left
 refine TL.val rfl rfl rfl (gives_pick rfl rfl rfl) ?_
 refine TL.val rfl rfl rfl (gives_move rfl rfl) ?_
 refine TL.on rfl rfl rfl ?_
 refine TL.val rfl rfl rfl (gives_field rfl rfl (fun w => fR10 _ w)) ?_
 refine TL.on rfl rfl rfl ?_
 refine TL.val rfl rfl rfl (pm_load (k := 0) rfl rfl agI rfl rfl) ?_
 refine TL.on rfl rfl rfl ?_
 refine TL.vsplit rfl rfl rfl (gives_bin rfl rfl rfl (fun w => bin_gtr w)) (fun h40 => ?_) (fun h40 => ?_)
 iterate 21 (first | refine TL.off rfl rfl rfl rfl rfl rfl ?_ | refine TL.val rfl rfl rfl (gives_pick rfl rfl rfl) ?_ | refine TL.val rfl rfl rfl (gives_move rfl rfl) ?_)
 refine TL.end_ (TX.then_ (TC.condT rfl (TC.seq_ (TC.region ?_))))
 refine TL.val rfl rfl rfl (gives_assign rfl rfl) ?_
 refine TL.end_ (TX.then_ (TC.ret_ (TX.then_ret ?_)))
 refine ret_tmp Tryd.results15 rfl (fun w1 hw => ⟨congrArg (fun x => Ending.returned (.int .i64 x)) ?_, hw.bel⟩)
 rotate_left
 refine TL.val rfl rfl rfl (gives_pick rfl rfl rfl) ?_
 refine TL.val rfl rfl rfl (gives_move rfl rfl) ?_
 refine TL.on rfl rfl rfl ?_
 refine TL.val rfl rfl rfl (gives_field rfl rfl (fun w => fR6 _ w)) ?_
 refine TL.on rfl rfl rfl ?_
 refine TL.val rfl rfl rfl (pm_load (k := 0) rfl rfl agI rfl rfl) ?_
 refine TL.on rfl rfl rfl ?_
 refine TL.vsplit rfl rfl rfl (gives_bin rfl rfl rfl (fun w => bin_lss w)) (fun h45 => ?_) (fun h45 => ?_)
 iterate 16 (first | refine TL.off rfl rfl rfl rfl rfl rfl ?_ | refine TL.val rfl rfl rfl (gives_pick rfl rfl rfl) ?_ | refine TL.val rfl rfl rfl (gives_move rfl rfl) ?_)
 refine TL.end_ (TX.then_ (TC.condT rfl (TC.seq_ (TC.region ?_))))
 refine TL.val rfl rfl rfl (gives_assign rfl rfl) ?_
 refine TL.end_ (TX.then_ (TC.ret_ (TX.then_ret ?_)))
 refine ret_tmp Tryd.results15 rfl (fun w1 hw => ⟨congrArg (fun x => Ending.returned (.int .i64 x)) ?_, hw.bel⟩)
 rotate_left
 refine TL.val rfl rfl rfl (gives_pick rfl rfl rfl) ?_
 refine TL.val rfl rfl rfl (gives_move rfl rfl) ?_
 refine TL.on rfl rfl rfl ?_
 refine TL.val rfl rfl rfl (gives_field rfl rfl (fun w => fR6 _ w)) ?_
 refine TL.on rfl rfl rfl ?_
 refine TL.val rfl rfl rfl (pm_load (k := 0) rfl rfl agI rfl rfl) ?_
 refine TL.on rfl rfl rfl ?_
 refine TL.vsplit rfl rfl rfl (gives_bin rfl rfl rfl (fun w => bin_gtr w)) (fun h50 => ?_) (fun h50 => ?_)
 iterate 11 (first | refine TL.off rfl rfl rfl rfl rfl rfl ?_ | refine TL.val rfl rfl rfl (gives_pick rfl rfl rfl) ?_ | refine TL.val rfl rfl rfl (gives_move rfl rfl) ?_)
 refine TL.end_ (TX.then_ (TC.condT rfl (TC.seq_ (TC.region ?_))))
 refine TL.val rfl rfl rfl (gives_assign rfl rfl) ?_
 refine TL.end_ (TX.then_ (TC.ret_ (TX.then_ret ?_)))
 refine ret_tmp Tryd.results15 rfl (fun w1 hw => ⟨congrArg (fun x => Ending.returned (.int .i64 x)) ?_, hw.bel⟩)
 rotate_left
 refine TL.val rfl rfl rfl (gives_pick rfl rfl rfl) ?_
 refine TL.val rfl rfl rfl (gives_move rfl rfl) ?_
 refine TL.on rfl rfl rfl ?_
 refine TL.val rfl rfl rfl (gives_field rfl rfl (fun w => fR7 _ w)) ?_
 refine TL.on rfl rfl rfl ?_
 refine TL.val rfl rfl rfl (pm_load (k := 0) rfl rfl agI rfl rfl) ?_
 refine TL.on rfl rfl rfl ?_
 refine TL.vsplit rfl rfl rfl (gives_bin rfl rfl rfl (fun w => bin_lss w)) (fun h55 => ?_) (fun h55 => ?_)
 iterate 6 (first | refine TL.off rfl rfl rfl rfl rfl rfl ?_ | refine TL.val rfl rfl rfl (gives_pick rfl rfl rfl) ?_ | refine TL.val rfl rfl rfl (gives_move rfl rfl) ?_)
 refine TL.end_ (TX.then_ (TC.condT rfl (TC.seq_ (TC.region ?_))))
 refine TL.val rfl rfl rfl (gives_assign rfl rfl) ?_
 refine TL.end_ (TX.then_ (TC.ret_ (TX.then_ret ?_)))
 refine ret_tmp Tryd.results15 rfl (fun w1 hw => ⟨congrArg (fun x => Ending.returned (.int .i64 x)) ?_, hw.bel⟩)
 rotate_left
 refine TL.val rfl rfl rfl (gives_pick rfl rfl rfl) ?_
 refine TL.val rfl rfl rfl (gives_move rfl rfl) ?_
 refine TL.on rfl rfl rfl ?_
 refine TL.val rfl rfl rfl (gives_field rfl rfl (fun w => fR7 _ w)) ?_
 refine TL.on rfl rfl rfl ?_
 refine TL.val rfl rfl rfl (pm_load (k := 0) rfl rfl agI rfl rfl) ?_
 refine TL.on rfl rfl rfl ?_
 refine TL.vsplit rfl rfl rfl (gives_bin rfl rfl rfl (fun w => bin_gtr w)) (fun h60 => ?_) (fun h60 => ?_)
 refine TL.val rfl rfl rfl (gives_pick rfl rfl rfl) ?_
 refine TL.end_ (TX.then_ (TC.condT rfl (TC.seq_ (TC.region ?_))))
 refine TL.val rfl rfl rfl (gives_assign rfl rfl) ?_
 refine TL.end_ (TX.then_ (TC.ret_ (TX.then_ret ?_)))
 refine ret_tmp Tryd.results15 rfl (fun w1 hw => ⟨congrArg (fun x => Ending.returned (.int .i64 x)) ?_, hw.bel⟩)
 rotate_left
 refine TL.val rfl rfl rfl (gives_pick rfl rfl rfl) ?_
 refine TL.end_ (TX.then_ (TC.condF rfl (TC.skip_ (TX.then_ ?_))))
 refine TC.join (α := PLift (proto = 1 ∨ proto = 6 ∨ proto = 17)) (fun _ => [(1, .pointer (some ⟨g1, 0, none⟩))]) (fun _ => Pm w [.blk g1 27 [.int .i64 v, .int .i64 run, .int .i64 num, .int .i64 at_, .int .u32 dst, .int .i64 proto, .int .i64 flow, .int .i64 ttl, .bool false, .bool false, .int .i64 back, .int .u32 src, .int .i64 kind, .int .i64 code, .int .i64 left, .int .i64 id, .int .i64 quo]]) ?_ ?_
 refine TC.seq_ (TC.region ?_)
 refine TL.val rfl rfl rfl (gives_field rfl rfl (fun w => fR5 _ w)) ?_
 refine TL.val rfl rfl rfl (pm_load (k := 0) rfl rfl agI rfl rfl) ?_
 refine TL.vsplit rfl rfl rfl (gives_bin rfl rfl rfl (fun w => bin_neq w)) (fun h64 => ?_) (fun h64 => ?_)
 refine TL.val rfl rfl rfl (gives_move rfl rfl) ?_
 refine TL.on rfl rfl rfl ?_
 refine TL.val rfl rfl rfl (gives_field rfl rfl (fun w => fR5 _ w)) ?_
 refine TL.on rfl rfl rfl ?_
 refine TL.val rfl rfl rfl (pm_load (k := 0) rfl rfl agI rfl rfl) ?_
 refine TL.on rfl rfl rfl ?_
 refine TL.vsplit rfl rfl rfl (gives_bin rfl rfl rfl (fun w => bin_neq w)) (fun h68 => ?_) (fun h68 => ?_)
 refine TL.val rfl rfl rfl (gives_pick rfl rfl rfl) ?_
 refine TL.val rfl rfl rfl (gives_move rfl rfl) ?_
 refine TL.on rfl rfl rfl ?_
 refine TL.val rfl rfl rfl (gives_field rfl rfl (fun w => fR5 _ w)) ?_
 refine TL.on rfl rfl rfl ?_
 refine TL.val rfl rfl rfl (pm_load (k := 0) rfl rfl agI rfl rfl) ?_
 refine TL.on rfl rfl rfl ?_
 refine TL.vsplit rfl rfl rfl (gives_bin rfl rfl rfl (fun w => bin_neq w)) (fun h73 => ?_) (fun h73 => ?_)
 refine TL.val rfl rfl rfl (gives_pick rfl rfl rfl) ?_
 refine TL.end_ (TX.then_ (TC.condT rfl (TC.seq_ (TC.region ?_))))
 refine TL.val rfl rfl rfl (gives_assign rfl rfl) ?_
 refine TL.end_ (TX.then_ (TC.ret_ (TX.then_ret ?_)))
 refine ret_tmp Tryd.results15 rfl (fun w1 hw => ⟨congrArg (fun x => Ending.returned (.int .i64 x)) ?_, hw.bel⟩)
 rotate_left
 refine TL.val rfl rfl rfl (gives_pick rfl rfl rfl) ?_
 refine TL.end_ (TX.then_ (TC.condF rfl (TC.skip_ ?_)))
 exact TX.joined (⟨by simp only [decide_eq_true_eq, decide_eq_false_iff_not] at *; omega⟩) (⟨rfl, trivial⟩) (fun w hw => hw)
 iterate 6 (first | refine TL.off rfl rfl rfl rfl rfl rfl ?_ | refine TL.val rfl rfl rfl (gives_pick rfl rfl rfl) ?_ | refine TL.val rfl rfl rfl (gives_move rfl rfl) ?_)
 refine TL.end_ (TX.then_ (TC.condF rfl (TC.skip_ ?_)))
 exact TX.joined (⟨by simp only [decide_eq_true_eq, decide_eq_false_iff_not] at *; omega⟩) (⟨rfl, trivial⟩) (fun w hw => hw)
 iterate 10 (first | refine TL.off rfl rfl rfl rfl rfl rfl ?_ | refine TL.val rfl rfl rfl (gives_move rfl rfl) ?_ | refine TL.val rfl rfl rfl (gives_pick rfl rfl rfl) ?_)
 refine TL.end_ (TX.then_ (TC.condF rfl (TC.skip_ ?_)))
 exact TX.joined (⟨by simp only [decide_eq_true_eq, decide_eq_false_iff_not] at *; omega⟩) (⟨rfl, trivial⟩) (fun w hw => hw)
 rintro ⟨hproto⟩
 refine TC.seq_ (TC.region ?_)
 refine TL.val rfl rfl rfl (gives_field rfl rfl (fun w => fR11 _ w)) ?_
 refine TL.val rfl rfl rfl (pm_loadAgg (k := 0) (n := 6) rfl rfl agA szA rfl (Nat.le_refl 17)) ?_
 refine TL.pnew rfl rfl rfl (exec_alloc (cs := [.int .u32 0, .int .i64 0, .int .i64 0, .int .i64 0, .int .i64 0, .int .i64 0]) rfl zeroA rfl) (fun g3 => ?_)
 refine TL.pstore (k := 0) (vs := [.int .u32 src, .int .i64 kind, .int .i64 code, .int .i64 left, .int .i64 id, .int .i64 quo]) rfl rfl rfl rfl rfl rfl rfl szA (oneA _ _ _ _ _ _) (Nat.le_refl 6) (L' := [.blk g3 25 [.int .u32 src, .int .i64 kind, .int .i64 code, .int .i64 left, .int .i64 id, .int .i64 quo], .blk g1 27 [.int .i64 v, .int .i64 run, .int .i64 num, .int .i64 at_, .int .u32 dst, .int .i64 proto, .int .i64 flow, .int .i64 ttl, .bool false, .bool false, .int .i64 back, .int .u32 src, .int .i64 kind, .int .i64 code, .int .i64 left, .int .i64 id, .int .i64 quo]]) rfl ?_
 refine TL.end_ (TX.then_ (TC.seq_ (TC.seq_ (TC.region ?_))))
 refine TL.val rfl rfl rfl (gives_field rfl rfl (fun w => fR8 _ w)) ?_
 refine TL.val rfl rfl rfl (pm_load (k := 1) rfl rfl agB rfl rfl) ?_
 refine TL.val rfl rfl rfl (gives_boolnot rfl rfl) ?_
 refine TL.val rfl rfl rfl (gives_move rfl rfl) ?_
 refine TL.on rfl rfl rfl ?_
 refine TL.val rfl rfl rfl (gives_field rfl rfl (fun w => fR9 _ w)) ?_
 refine TL.on rfl rfl rfl ?_
 refine TL.val rfl rfl rfl (pm_load (k := 1) rfl rfl agB rfl rfl) ?_
 refine TL.on rfl rfl rfl ?_
 refine TL.val rfl rfl rfl (gives_move rfl rfl) ?_
 refine TL.on rfl rfl rfl ?_
 refine TL.val rfl rfl rfl (pm_loadAgg (k := 0) (n := 6) rfl rfl agA szA rfl (Nat.le_refl 6)) ?_
 refine TL.on rfl rfl rfl ?_
 refine TL.val rfl rfl rfl (gives_build rfl rfl (fun w => buildA w)) ?_
 refine TL.on rfl rfl rfl ?_
 refine TL.vsplit rfl rfl rfl (gives_bin2 rfl rfl rfl (fun w => neqA _ _ _ _ _ _ _ _ _ _ _ _ w)) (fun h86 => ?_) (fun h86 => ?_)
 refine TL.on rfl rfl rfl ?_
 refine TL.val rfl rfl rfl (gives_pick rfl rfl rfl) ?_
 refine TL.val rfl rfl rfl (gives_pick rfl rfl rfl) ?_
 refine TL.end_ (TX.then_ (TC.condT rfl (TC.seq_ (TC.region ?_))))
 refine TL.val rfl rfl rfl (gives_assign rfl rfl) ?_
 refine TL.end_ (TX.then_ (TC.ret_ (TX.then_ret ?_)))
 refine ret_tmp Tryd.results15 rfl (fun w1 hw => ⟨congrArg (fun x => Ending.returned (.int .i64 x)) ?_, hw.bel⟩)
 rotate_left
 refine TL.on rfl rfl rfl ?_
 refine TL.val rfl rfl rfl (gives_pick rfl rfl rfl) ?_
 refine TL.val rfl rfl rfl (gives_pick rfl rfl rfl) ?_
 refine TL.end_ (TX.then_ (TC.condF rfl (TC.skip_ (TX.then_ (TC.seq_ (TC.seq_ (TC.region ?_)))))))
 refine TL.val rfl rfl rfl (gives_field rfl rfl (fun w => fR8 _ w)) ?_
 refine TL.val rfl rfl rfl (pm_load (k := 1) rfl rfl agB rfl rfl) ?_
 iterate 38 (first | refine TL.offU rfl rfl rfl rfl rfl ?_ | refine TL.off rfl rfl rfl rfl rfl rfl ?_ | refine TL.val rfl rfl rfl (gives_move rfl rfl) ?_ | refine TL.val rfl rfl rfl (gives_pick rfl rfl rfl) ?_)
 refine TL.end_ (TX.then_ (TC.condF rfl (TC.skip_ (TX.then_ (TC.seq_ (TC.region ?_))))))
 refine TL.val rfl rfl rfl (gives_assign rfl rfl) ?_
 refine TL.end_ (TX.then_ (TC.ret_ ?_))
 refine ret_tmp Tryd.results15 rfl (fun w1 hw => ⟨congrArg (fun x => Ending.returned (.int .i64 x)) ?_, hw.bel⟩)
 rotate_left
 iterate 53 (first | refine TL.off rfl rfl rfl rfl rfl rfl ?_ | refine TL.val rfl rfl rfl (gives_move rfl rfl) ?_ | refine TL.val rfl rfl rfl (gives_pick rfl rfl rfl) ?_ | refine TL.val rfl rfl rfl (gives_boolnot rfl rfl) ?_)
 refine TL.end_ (TX.then_ (TC.condT rfl (TC.seq_ (TC.region ?_))))
 refine TL.val rfl rfl rfl (gives_assign rfl rfl) ?_
 refine TL.end_ (TX.then_ (TC.ret_ (TX.then_ret ?_)))
 refine ret_tmp Tryd.results15 rfl (fun w1 hw => ⟨congrArg (fun x => Ending.returned (.int .i64 x)) ?_, hw.bel⟩)
 rotate_left
 all_goals (simp only [decide_eq_true_eq, decide_eq_false_iff_not] at *; first | exact chk_range (by unfold Rs.inRange; dsimp only; omega) | exact chk_ans rfl (by unfold Rs.inRange; dsimp only; omega) (by dsimp only; omega) (by unfold Rs.ansOk; dsimp only; omega) | (simp only [chkR, Rs.inRange, Rs.ansOk, Rs.noAns]; (try split) <;> (try split) <;> (try split) <;> (try split) <;> first | rfl | omega | (simp_all; done) | (simp_all; omega)))
set_option maxHeartbeats 2000000 in
theorem rcheck_any_ft (v run num at_ dst proto flow ttl back src kind code left id quo : Int) (w : World) :
  Calls Tryd.prog 15 #[.agg #[.int .i64 v, .int .i64 run, .int .i64 num, .int .i64 at_, .int .u32 dst, .int .i64 proto, .int .i64 flow, .int .i64 ttl, .bool false, .bool true, .int .i64 back, .int .u32 src, .int .i64 kind, .int .i64 code, .int .i64 left, .int .i64 id, .int .i64 quo]] w fun e w' => e = .returned (.int .i64 (chkR ⟨v, run, num, at_, dst, proto, flow, ttl, false, true, back, src, kind, code, left, id, quo⟩)) ∧ Below w.heap.size w w' := by
 refine begin_ (vs := [.agg #[.int .i64 v, .int .i64 run, .int .i64 num, .int .i64 at_, .int .u32 dst, .int .i64 proto, .int .i64 flow, .int .i64 ttl, .bool false, .bool true, .int .i64 back, .int .u32 src, .int .i64 kind, .int .i64 code, .int .i64 left, .int .i64 id, .int .i64 quo]]) Tryd.func15 rfl rfl rfl ?_ (Pm.start w)
 refine TC.seq_ (TC.region ?_)
 refine TL.pnew rfl rfl rfl (exec_box (cs := [.int .i64 v, .int .i64 run, .int .i64 num, .int .i64 at_, .int .u32 dst, .int .i64 proto, .int .i64 flow, .int .i64 ttl, .bool false, .bool true, .int .i64 back, .int .u32 src, .int .i64 kind, .int .i64 code, .int .i64 left, .int .i64 id, .int .i64 quo]) rfl rfl rfl) (fun g1 => ?_)
 refine TL.val rfl rfl rfl (gives_assign rfl rfl) ?_
 refine TL.end_ (TX.then_ (TC.seq_ (TC.seq_ (TC.region ?_))))
 refine TL.val rfl rfl rfl (gives_field rfl rfl (fun w => fR0 _ w)) ?_
 refine TL.val rfl rfl rfl (pm_load (k := 0) rfl rfl agI rfl rfl) ?_
 refine TL.val rfl rfl rfl (gives_field rfl rfl (fun w => fR1 _ w)) ?_
 refine TL.val rfl rfl rfl (pm_load (k := 0) rfl rfl agI rfl rfl) ?_
 refine TL.callsplit rfl rfl rfl rfl rfl Tryd.func47 nmIdent bdIdent (fun w1 hw => ident_any v run w1) (fun h8 => ?_) (fun h8 => ?_)
 refine TL.val rfl rfl rfl (gives_boolnot rfl rfl) ?_
 refine TL.val rfl rfl rfl (gives_move rfl rfl) ?_
 refine TL.on rfl rfl rfl ?_
 refine TL.val rfl rfl rfl (gives_field rfl rfl (fun w => fR2 _ w)) ?_
 refine TL.on rfl rfl rfl ?_
 refine TL.val rfl rfl rfl (pm_load (k := 0) rfl rfl agI rfl rfl) ?_
 refine TL.on rfl rfl rfl ?_
 refine TL.vsplit rfl rfl rfl (gives_bin rfl rfl rfl (fun w => bin_lss w)) (fun h13 => ?_) (fun h13 => ?_)
 iterate 48 (first | refine TL.off rfl rfl rfl rfl rfl rfl ?_ | refine TL.val rfl rfl rfl (gives_pick rfl rfl rfl) ?_ | refine TL.val rfl rfl rfl (gives_move rfl rfl) ?_)
 refine TL.end_ (TX.then_ (TC.condT rfl (TC.seq_ (TC.region ?_))))
 refine TL.val rfl rfl rfl (gives_assign rfl rfl) ?_
 refine TL.end_ (TX.then_ (TC.ret_ (TX.then_ret ?_)))
 refine ret_tmp Tryd.results15 rfl (fun w1 hw => ⟨congrArg (fun x => Ending.returned (.int .i64 x)) ?_, hw.bel⟩)
 rotate_left
 refine TL.val rfl rfl rfl (gives_pick rfl rfl rfl) ?_
 refine TL.val rfl rfl rfl (gives_move rfl rfl) ?_
 refine TL.on rfl rfl rfl ?_
 refine TL.val rfl rfl rfl (gives_field rfl rfl (fun w => fR2 _ w)) ?_
 refine TL.on rfl rfl rfl ?_
 refine TL.val rfl rfl rfl (pm_load (k := 0) rfl rfl agI rfl rfl) ?_
 refine TL.on rfl rfl rfl ?_
 refine TL.vsplit rfl rfl rfl (gives_bin rfl rfl rfl (fun w => bin_geq w)) (fun h18 => ?_) (fun h18 => ?_)
 iterate 43 (first | refine TL.off rfl rfl rfl rfl rfl rfl ?_ | refine TL.val rfl rfl rfl (gives_pick rfl rfl rfl) ?_ | refine TL.val rfl rfl rfl (gives_move rfl rfl) ?_)
 refine TL.end_ (TX.then_ (TC.condT rfl (TC.seq_ (TC.region ?_))))
 refine TL.val rfl rfl rfl (gives_assign rfl rfl) ?_
 refine TL.end_ (TX.then_ (TC.ret_ (TX.then_ret ?_)))
 refine ret_tmp Tryd.results15 rfl (fun w1 hw => ⟨congrArg (fun x => Ending.returned (.int .i64 x)) ?_, hw.bel⟩)
 rotate_left
 refine TL.val rfl rfl rfl (gives_pick rfl rfl rfl) ?_
 refine TL.val rfl rfl rfl (gives_move rfl rfl) ?_
 refine TL.on rfl rfl rfl ?_
 refine TL.val rfl rfl rfl (gives_field rfl rfl (fun w => fR3 _ w)) ?_
 refine TL.on rfl rfl rfl ?_
 refine TL.val rfl rfl rfl (pm_load (k := 0) rfl rfl agI rfl rfl) ?_
 refine TL.on rfl rfl rfl ?_
 refine TL.vsplit rfl rfl rfl (gives_bin rfl rfl rfl (fun w => bin_lss w)) (fun h23 => ?_) (fun h23 => ?_)
 iterate 38 (first | refine TL.off rfl rfl rfl rfl rfl rfl ?_ | refine TL.val rfl rfl rfl (gives_pick rfl rfl rfl) ?_ | refine TL.val rfl rfl rfl (gives_move rfl rfl) ?_)
 refine TL.end_ (TX.then_ (TC.condT rfl (TC.seq_ (TC.region ?_))))
 refine TL.val rfl rfl rfl (gives_assign rfl rfl) ?_
 refine TL.end_ (TX.then_ (TC.ret_ (TX.then_ret ?_)))
 refine ret_tmp Tryd.results15 rfl (fun w1 hw => ⟨congrArg (fun x => Ending.returned (.int .i64 x)) ?_, hw.bel⟩)
 rotate_left
 refine TL.val rfl rfl rfl (gives_pick rfl rfl rfl) ?_
 refine TL.val rfl rfl rfl (gives_move rfl rfl) ?_
 refine TL.on rfl rfl rfl ?_
 refine TL.val rfl rfl rfl (gives_field rfl rfl (fun w => fR3 _ w)) ?_
 refine TL.on rfl rfl rfl ?_
 refine TL.val rfl rfl rfl (pm_load (k := 0) rfl rfl agI rfl rfl) ?_
 refine TL.on rfl rfl rfl ?_
 refine TL.vsplit rfl rfl rfl (gives_bin rfl rfl rfl (fun w => bin_gtr w)) (fun h28 => ?_) (fun h28 => ?_)
 iterate 33 (first | refine TL.off rfl rfl rfl rfl rfl rfl ?_ | refine TL.val rfl rfl rfl (gives_pick rfl rfl rfl) ?_ | refine TL.val rfl rfl rfl (gives_move rfl rfl) ?_)
 refine TL.end_ (TX.then_ (TC.condT rfl (TC.seq_ (TC.region ?_))))
 refine TL.val rfl rfl rfl (gives_assign rfl rfl) ?_
 refine TL.end_ (TX.then_ (TC.ret_ (TX.then_ret ?_)))
 refine ret_tmp Tryd.results15 rfl (fun w1 hw => ⟨congrArg (fun x => Ending.returned (.int .i64 x)) ?_, hw.bel⟩)
 rotate_left
 refine TL.val rfl rfl rfl (gives_pick rfl rfl rfl) ?_
 refine TL.val rfl rfl rfl (gives_move rfl rfl) ?_
 refine TL.on rfl rfl rfl ?_
 refine TL.val rfl rfl rfl (gives_field rfl rfl (fun w => fR10 _ w)) ?_
 refine TL.on rfl rfl rfl ?_
 refine TL.val rfl rfl rfl (pm_load (k := 0) rfl rfl agI rfl rfl) ?_
 refine TL.on rfl rfl rfl ?_
 refine TL.val rfl rfl rfl (gives_field rfl rfl (fun w => fR3 _ w)) ?_
 refine TL.on rfl rfl rfl ?_
 refine TL.val rfl rfl rfl (pm_load (k := 0) rfl rfl agI rfl rfl) ?_
 refine TL.on rfl rfl rfl ?_
 refine TL.vsplit rfl rfl rfl (gives_bin rfl rfl rfl (fun w => bin_lss w)) (fun h35 => ?_) (fun h35 => ?_)
 iterate 26 (first | refine TL.off rfl rfl rfl rfl rfl rfl ?_ | refine TL.val rfl rfl rfl (gives_pick rfl rfl rfl) ?_ | refine TL.val rfl rfl rfl (gives_move rfl rfl) ?_)
 refine TL.end_ (TX.then_ (TC.condT rfl (TC.seq_ (TC.region ?_))))
 refine TL.val rfl rfl rfl (gives_assign rfl rfl) ?_
 refine TL.end_ (TX.then_ (TC.ret_ (TX.then_ret ?_)))
 refine ret_tmp Tryd.results15 rfl (fun w1 hw => ⟨congrArg (fun x => Ending.returned (.int .i64 x)) ?_, hw.bel⟩)
 rotate_left
 refine TL.val rfl rfl rfl (gives_pick rfl rfl rfl) ?_
 refine TL.val rfl rfl rfl (gives_move rfl rfl) ?_
 refine TL.on rfl rfl rfl ?_
 refine TL.val rfl rfl rfl (gives_field rfl rfl (fun w => fR10 _ w)) ?_
 refine TL.on rfl rfl rfl ?_
 refine TL.val rfl rfl rfl (pm_load (k := 0) rfl rfl agI rfl rfl) ?_
 refine TL.on rfl rfl rfl ?_
 refine TL.vsplit rfl rfl rfl (gives_bin rfl rfl rfl (fun w => bin_gtr w)) (fun h40 => ?_) (fun h40 => ?_)
 iterate 21 (first | refine TL.off rfl rfl rfl rfl rfl rfl ?_ | refine TL.val rfl rfl rfl (gives_pick rfl rfl rfl) ?_ | refine TL.val rfl rfl rfl (gives_move rfl rfl) ?_)
 refine TL.end_ (TX.then_ (TC.condT rfl (TC.seq_ (TC.region ?_))))
 refine TL.val rfl rfl rfl (gives_assign rfl rfl) ?_
 refine TL.end_ (TX.then_ (TC.ret_ (TX.then_ret ?_)))
 refine ret_tmp Tryd.results15 rfl (fun w1 hw => ⟨congrArg (fun x => Ending.returned (.int .i64 x)) ?_, hw.bel⟩)
 rotate_left
 refine TL.val rfl rfl rfl (gives_pick rfl rfl rfl) ?_
 refine TL.val rfl rfl rfl (gives_move rfl rfl) ?_
 refine TL.on rfl rfl rfl ?_
 refine TL.val rfl rfl rfl (gives_field rfl rfl (fun w => fR6 _ w)) ?_
 refine TL.on rfl rfl rfl ?_
 refine TL.val rfl rfl rfl (pm_load (k := 0) rfl rfl agI rfl rfl) ?_
 refine TL.on rfl rfl rfl ?_
 refine TL.vsplit rfl rfl rfl (gives_bin rfl rfl rfl (fun w => bin_lss w)) (fun h45 => ?_) (fun h45 => ?_)
 iterate 16 (first | refine TL.off rfl rfl rfl rfl rfl rfl ?_ | refine TL.val rfl rfl rfl (gives_pick rfl rfl rfl) ?_ | refine TL.val rfl rfl rfl (gives_move rfl rfl) ?_)
 refine TL.end_ (TX.then_ (TC.condT rfl (TC.seq_ (TC.region ?_))))
 refine TL.val rfl rfl rfl (gives_assign rfl rfl) ?_
 refine TL.end_ (TX.then_ (TC.ret_ (TX.then_ret ?_)))
 refine ret_tmp Tryd.results15 rfl (fun w1 hw => ⟨congrArg (fun x => Ending.returned (.int .i64 x)) ?_, hw.bel⟩)
 rotate_left
 refine TL.val rfl rfl rfl (gives_pick rfl rfl rfl) ?_
 refine TL.val rfl rfl rfl (gives_move rfl rfl) ?_
 refine TL.on rfl rfl rfl ?_
 refine TL.val rfl rfl rfl (gives_field rfl rfl (fun w => fR6 _ w)) ?_
 refine TL.on rfl rfl rfl ?_
 refine TL.val rfl rfl rfl (pm_load (k := 0) rfl rfl agI rfl rfl) ?_
 refine TL.on rfl rfl rfl ?_
 refine TL.vsplit rfl rfl rfl (gives_bin rfl rfl rfl (fun w => bin_gtr w)) (fun h50 => ?_) (fun h50 => ?_)
 iterate 11 (first | refine TL.off rfl rfl rfl rfl rfl rfl ?_ | refine TL.val rfl rfl rfl (gives_pick rfl rfl rfl) ?_ | refine TL.val rfl rfl rfl (gives_move rfl rfl) ?_)
 refine TL.end_ (TX.then_ (TC.condT rfl (TC.seq_ (TC.region ?_))))
 refine TL.val rfl rfl rfl (gives_assign rfl rfl) ?_
 refine TL.end_ (TX.then_ (TC.ret_ (TX.then_ret ?_)))
 refine ret_tmp Tryd.results15 rfl (fun w1 hw => ⟨congrArg (fun x => Ending.returned (.int .i64 x)) ?_, hw.bel⟩)
 rotate_left
 refine TL.val rfl rfl rfl (gives_pick rfl rfl rfl) ?_
 refine TL.val rfl rfl rfl (gives_move rfl rfl) ?_
 refine TL.on rfl rfl rfl ?_
 refine TL.val rfl rfl rfl (gives_field rfl rfl (fun w => fR7 _ w)) ?_
 refine TL.on rfl rfl rfl ?_
 refine TL.val rfl rfl rfl (pm_load (k := 0) rfl rfl agI rfl rfl) ?_
 refine TL.on rfl rfl rfl ?_
 refine TL.vsplit rfl rfl rfl (gives_bin rfl rfl rfl (fun w => bin_lss w)) (fun h55 => ?_) (fun h55 => ?_)
 iterate 6 (first | refine TL.off rfl rfl rfl rfl rfl rfl ?_ | refine TL.val rfl rfl rfl (gives_pick rfl rfl rfl) ?_ | refine TL.val rfl rfl rfl (gives_move rfl rfl) ?_)
 refine TL.end_ (TX.then_ (TC.condT rfl (TC.seq_ (TC.region ?_))))
 refine TL.val rfl rfl rfl (gives_assign rfl rfl) ?_
 refine TL.end_ (TX.then_ (TC.ret_ (TX.then_ret ?_)))
 refine ret_tmp Tryd.results15 rfl (fun w1 hw => ⟨congrArg (fun x => Ending.returned (.int .i64 x)) ?_, hw.bel⟩)
 rotate_left
 refine TL.val rfl rfl rfl (gives_pick rfl rfl rfl) ?_
 refine TL.val rfl rfl rfl (gives_move rfl rfl) ?_
 refine TL.on rfl rfl rfl ?_
 refine TL.val rfl rfl rfl (gives_field rfl rfl (fun w => fR7 _ w)) ?_
 refine TL.on rfl rfl rfl ?_
 refine TL.val rfl rfl rfl (pm_load (k := 0) rfl rfl agI rfl rfl) ?_
 refine TL.on rfl rfl rfl ?_
 refine TL.vsplit rfl rfl rfl (gives_bin rfl rfl rfl (fun w => bin_gtr w)) (fun h60 => ?_) (fun h60 => ?_)
 refine TL.val rfl rfl rfl (gives_pick rfl rfl rfl) ?_
 refine TL.end_ (TX.then_ (TC.condT rfl (TC.seq_ (TC.region ?_))))
 refine TL.val rfl rfl rfl (gives_assign rfl rfl) ?_
 refine TL.end_ (TX.then_ (TC.ret_ (TX.then_ret ?_)))
 refine ret_tmp Tryd.results15 rfl (fun w1 hw => ⟨congrArg (fun x => Ending.returned (.int .i64 x)) ?_, hw.bel⟩)
 rotate_left
 refine TL.val rfl rfl rfl (gives_pick rfl rfl rfl) ?_
 refine TL.end_ (TX.then_ (TC.condF rfl (TC.skip_ (TX.then_ ?_))))
 refine TC.join (α := PLift (proto = 1 ∨ proto = 6 ∨ proto = 17)) (fun _ => [(1, .pointer (some ⟨g1, 0, none⟩))]) (fun _ => Pm w [.blk g1 27 [.int .i64 v, .int .i64 run, .int .i64 num, .int .i64 at_, .int .u32 dst, .int .i64 proto, .int .i64 flow, .int .i64 ttl, .bool false, .bool true, .int .i64 back, .int .u32 src, .int .i64 kind, .int .i64 code, .int .i64 left, .int .i64 id, .int .i64 quo]]) ?_ ?_
 refine TC.seq_ (TC.region ?_)
 refine TL.val rfl rfl rfl (gives_field rfl rfl (fun w => fR5 _ w)) ?_
 refine TL.val rfl rfl rfl (pm_load (k := 0) rfl rfl agI rfl rfl) ?_
 refine TL.vsplit rfl rfl rfl (gives_bin rfl rfl rfl (fun w => bin_neq w)) (fun h64 => ?_) (fun h64 => ?_)
 refine TL.val rfl rfl rfl (gives_move rfl rfl) ?_
 refine TL.on rfl rfl rfl ?_
 refine TL.val rfl rfl rfl (gives_field rfl rfl (fun w => fR5 _ w)) ?_
 refine TL.on rfl rfl rfl ?_
 refine TL.val rfl rfl rfl (pm_load (k := 0) rfl rfl agI rfl rfl) ?_
 refine TL.on rfl rfl rfl ?_
 refine TL.vsplit rfl rfl rfl (gives_bin rfl rfl rfl (fun w => bin_neq w)) (fun h68 => ?_) (fun h68 => ?_)
 refine TL.val rfl rfl rfl (gives_pick rfl rfl rfl) ?_
 refine TL.val rfl rfl rfl (gives_move rfl rfl) ?_
 refine TL.on rfl rfl rfl ?_
 refine TL.val rfl rfl rfl (gives_field rfl rfl (fun w => fR5 _ w)) ?_
 refine TL.on rfl rfl rfl ?_
 refine TL.val rfl rfl rfl (pm_load (k := 0) rfl rfl agI rfl rfl) ?_
 refine TL.on rfl rfl rfl ?_
 refine TL.vsplit rfl rfl rfl (gives_bin rfl rfl rfl (fun w => bin_neq w)) (fun h73 => ?_) (fun h73 => ?_)
 refine TL.val rfl rfl rfl (gives_pick rfl rfl rfl) ?_
 refine TL.end_ (TX.then_ (TC.condT rfl (TC.seq_ (TC.region ?_))))
 refine TL.val rfl rfl rfl (gives_assign rfl rfl) ?_
 refine TL.end_ (TX.then_ (TC.ret_ (TX.then_ret ?_)))
 refine ret_tmp Tryd.results15 rfl (fun w1 hw => ⟨congrArg (fun x => Ending.returned (.int .i64 x)) ?_, hw.bel⟩)
 rotate_left
 refine TL.val rfl rfl rfl (gives_pick rfl rfl rfl) ?_
 refine TL.end_ (TX.then_ (TC.condF rfl (TC.skip_ ?_)))
 exact TX.joined (⟨by simp only [decide_eq_true_eq, decide_eq_false_iff_not] at *; omega⟩) (⟨rfl, trivial⟩) (fun w hw => hw)
 iterate 6 (first | refine TL.off rfl rfl rfl rfl rfl rfl ?_ | refine TL.val rfl rfl rfl (gives_pick rfl rfl rfl) ?_ | refine TL.val rfl rfl rfl (gives_move rfl rfl) ?_)
 refine TL.end_ (TX.then_ (TC.condF rfl (TC.skip_ ?_)))
 exact TX.joined (⟨by simp only [decide_eq_true_eq, decide_eq_false_iff_not] at *; omega⟩) (⟨rfl, trivial⟩) (fun w hw => hw)
 iterate 10 (first | refine TL.off rfl rfl rfl rfl rfl rfl ?_ | refine TL.val rfl rfl rfl (gives_move rfl rfl) ?_ | refine TL.val rfl rfl rfl (gives_pick rfl rfl rfl) ?_)
 refine TL.end_ (TX.then_ (TC.condF rfl (TC.skip_ ?_)))
 exact TX.joined (⟨by simp only [decide_eq_true_eq, decide_eq_false_iff_not] at *; omega⟩) (⟨rfl, trivial⟩) (fun w hw => hw)
 rintro ⟨hproto⟩
 refine TC.seq_ (TC.region ?_)
 refine TL.val rfl rfl rfl (gives_field rfl rfl (fun w => fR11 _ w)) ?_
 refine TL.val rfl rfl rfl (pm_loadAgg (k := 0) (n := 6) rfl rfl agA szA rfl (Nat.le_refl 17)) ?_
 refine TL.pnew rfl rfl rfl (exec_alloc (cs := [.int .u32 0, .int .i64 0, .int .i64 0, .int .i64 0, .int .i64 0, .int .i64 0]) rfl zeroA rfl) (fun g3 => ?_)
 refine TL.pstore (k := 0) (vs := [.int .u32 src, .int .i64 kind, .int .i64 code, .int .i64 left, .int .i64 id, .int .i64 quo]) rfl rfl rfl rfl rfl rfl rfl szA (oneA _ _ _ _ _ _) (Nat.le_refl 6) (L' := [.blk g3 25 [.int .u32 src, .int .i64 kind, .int .i64 code, .int .i64 left, .int .i64 id, .int .i64 quo], .blk g1 27 [.int .i64 v, .int .i64 run, .int .i64 num, .int .i64 at_, .int .u32 dst, .int .i64 proto, .int .i64 flow, .int .i64 ttl, .bool false, .bool true, .int .i64 back, .int .u32 src, .int .i64 kind, .int .i64 code, .int .i64 left, .int .i64 id, .int .i64 quo]]) rfl ?_
 refine TL.end_ (TX.then_ (TC.seq_ (TC.seq_ (TC.region ?_))))
 refine TL.val rfl rfl rfl (gives_field rfl rfl (fun w => fR8 _ w)) ?_
 refine TL.val rfl rfl rfl (pm_load (k := 1) rfl rfl agB rfl rfl) ?_
 refine TL.val rfl rfl rfl (gives_boolnot rfl rfl) ?_
 refine TL.val rfl rfl rfl (gives_move rfl rfl) ?_
 refine TL.on rfl rfl rfl ?_
 refine TL.val rfl rfl rfl (gives_field rfl rfl (fun w => fR9 _ w)) ?_
 refine TL.on rfl rfl rfl ?_
 refine TL.val rfl rfl rfl (pm_load (k := 1) rfl rfl agB rfl rfl) ?_
 iterate 8 (first | refine TL.off rfl rfl rfl rfl rfl rfl ?_ | refine TL.on rfl rfl rfl ?_ | refine TL.val rfl rfl rfl (gives_pick rfl rfl rfl) ?_ | refine TL.val rfl rfl rfl (gives_move rfl rfl) ?_)
 refine TL.end_ (TX.then_ (TC.condT rfl (TC.seq_ (TC.region ?_))))
 refine TL.val rfl rfl rfl (gives_assign rfl rfl) ?_
 refine TL.end_ (TX.then_ (TC.ret_ (TX.then_ret ?_)))
 refine ret_tmp Tryd.results15 rfl (fun w1 hw => ⟨congrArg (fun x => Ending.returned (.int .i64 x)) ?_, hw.bel⟩)
 rotate_left
 iterate 53 (first | refine TL.off rfl rfl rfl rfl rfl rfl ?_ | refine TL.val rfl rfl rfl (gives_move rfl rfl) ?_ | refine TL.val rfl rfl rfl (gives_pick rfl rfl rfl) ?_ | refine TL.val rfl rfl rfl (gives_boolnot rfl rfl) ?_)
 refine TL.end_ (TX.then_ (TC.condT rfl (TC.seq_ (TC.region ?_))))
 refine TL.val rfl rfl rfl (gives_assign rfl rfl) ?_
 refine TL.end_ (TX.then_ (TC.ret_ (TX.then_ret ?_)))
 refine ret_tmp Tryd.results15 rfl (fun w1 hw => ⟨congrArg (fun x => Ending.returned (.int .i64 x)) ?_, hw.bel⟩)
 rotate_left
 all_goals (simp only [decide_eq_true_eq, decide_eq_false_iff_not] at *; first | exact chk_range (by unfold Rs.inRange; dsimp only; omega) | exact chk_ans rfl (by unfold Rs.inRange; dsimp only; omega) (by dsimp only; omega) (by unfold Rs.ansOk; dsimp only; omega) | (simp only [chkR, Rs.inRange, Rs.ansOk, Rs.noAns]; (try split) <;> (try split) <;> (try split) <;> (try split) <;> first | rfl | omega | (simp_all; done) | (simp_all; omega)))
set_option maxHeartbeats 2000000 in
theorem rcheck_any_tf (v run num at_ dst proto flow ttl back src kind code left id quo : Int) (w : World) :
  Calls Tryd.prog 15 #[.agg #[.int .i64 v, .int .i64 run, .int .i64 num, .int .i64 at_, .int .u32 dst, .int .i64 proto, .int .i64 flow, .int .i64 ttl, .bool true, .bool false, .int .i64 back, .int .u32 src, .int .i64 kind, .int .i64 code, .int .i64 left, .int .i64 id, .int .i64 quo]] w fun e w' => e = .returned (.int .i64 (chkR ⟨v, run, num, at_, dst, proto, flow, ttl, true, false, back, src, kind, code, left, id, quo⟩)) ∧ Below w.heap.size w w' := by
 refine begin_ (vs := [.agg #[.int .i64 v, .int .i64 run, .int .i64 num, .int .i64 at_, .int .u32 dst, .int .i64 proto, .int .i64 flow, .int .i64 ttl, .bool true, .bool false, .int .i64 back, .int .u32 src, .int .i64 kind, .int .i64 code, .int .i64 left, .int .i64 id, .int .i64 quo]]) Tryd.func15 rfl rfl rfl ?_ (Pm.start w)
 refine TC.seq_ (TC.region ?_)
 refine TL.pnew rfl rfl rfl (exec_box (cs := [.int .i64 v, .int .i64 run, .int .i64 num, .int .i64 at_, .int .u32 dst, .int .i64 proto, .int .i64 flow, .int .i64 ttl, .bool true, .bool false, .int .i64 back, .int .u32 src, .int .i64 kind, .int .i64 code, .int .i64 left, .int .i64 id, .int .i64 quo]) rfl rfl rfl) (fun g1 => ?_)
 refine TL.val rfl rfl rfl (gives_assign rfl rfl) ?_
 refine TL.end_ (TX.then_ (TC.seq_ (TC.seq_ (TC.region ?_))))
 refine TL.val rfl rfl rfl (gives_field rfl rfl (fun w => fR0 _ w)) ?_
 refine TL.val rfl rfl rfl (pm_load (k := 0) rfl rfl agI rfl rfl) ?_
 refine TL.val rfl rfl rfl (gives_field rfl rfl (fun w => fR1 _ w)) ?_
 refine TL.val rfl rfl rfl (pm_load (k := 0) rfl rfl agI rfl rfl) ?_
 refine TL.callsplit rfl rfl rfl rfl rfl Tryd.func47 nmIdent bdIdent (fun w1 hw => ident_any v run w1) (fun h8 => ?_) (fun h8 => ?_)
 refine TL.val rfl rfl rfl (gives_boolnot rfl rfl) ?_
 refine TL.val rfl rfl rfl (gives_move rfl rfl) ?_
 refine TL.on rfl rfl rfl ?_
 refine TL.val rfl rfl rfl (gives_field rfl rfl (fun w => fR2 _ w)) ?_
 refine TL.on rfl rfl rfl ?_
 refine TL.val rfl rfl rfl (pm_load (k := 0) rfl rfl agI rfl rfl) ?_
 refine TL.on rfl rfl rfl ?_
 refine TL.vsplit rfl rfl rfl (gives_bin rfl rfl rfl (fun w => bin_lss w)) (fun h13 => ?_) (fun h13 => ?_)
 iterate 48 (first | refine TL.off rfl rfl rfl rfl rfl rfl ?_ | refine TL.val rfl rfl rfl (gives_pick rfl rfl rfl) ?_ | refine TL.val rfl rfl rfl (gives_move rfl rfl) ?_)
 refine TL.end_ (TX.then_ (TC.condT rfl (TC.seq_ (TC.region ?_))))
 refine TL.val rfl rfl rfl (gives_assign rfl rfl) ?_
 refine TL.end_ (TX.then_ (TC.ret_ (TX.then_ret ?_)))
 refine ret_tmp Tryd.results15 rfl (fun w1 hw => ⟨congrArg (fun x => Ending.returned (.int .i64 x)) ?_, hw.bel⟩)
 rotate_left
 refine TL.val rfl rfl rfl (gives_pick rfl rfl rfl) ?_
 refine TL.val rfl rfl rfl (gives_move rfl rfl) ?_
 refine TL.on rfl rfl rfl ?_
 refine TL.val rfl rfl rfl (gives_field rfl rfl (fun w => fR2 _ w)) ?_
 refine TL.on rfl rfl rfl ?_
 refine TL.val rfl rfl rfl (pm_load (k := 0) rfl rfl agI rfl rfl) ?_
 refine TL.on rfl rfl rfl ?_
 refine TL.vsplit rfl rfl rfl (gives_bin rfl rfl rfl (fun w => bin_geq w)) (fun h18 => ?_) (fun h18 => ?_)
 iterate 43 (first | refine TL.off rfl rfl rfl rfl rfl rfl ?_ | refine TL.val rfl rfl rfl (gives_pick rfl rfl rfl) ?_ | refine TL.val rfl rfl rfl (gives_move rfl rfl) ?_)
 refine TL.end_ (TX.then_ (TC.condT rfl (TC.seq_ (TC.region ?_))))
 refine TL.val rfl rfl rfl (gives_assign rfl rfl) ?_
 refine TL.end_ (TX.then_ (TC.ret_ (TX.then_ret ?_)))
 refine ret_tmp Tryd.results15 rfl (fun w1 hw => ⟨congrArg (fun x => Ending.returned (.int .i64 x)) ?_, hw.bel⟩)
 rotate_left
 refine TL.val rfl rfl rfl (gives_pick rfl rfl rfl) ?_
 refine TL.val rfl rfl rfl (gives_move rfl rfl) ?_
 refine TL.on rfl rfl rfl ?_
 refine TL.val rfl rfl rfl (gives_field rfl rfl (fun w => fR3 _ w)) ?_
 refine TL.on rfl rfl rfl ?_
 refine TL.val rfl rfl rfl (pm_load (k := 0) rfl rfl agI rfl rfl) ?_
 refine TL.on rfl rfl rfl ?_
 refine TL.vsplit rfl rfl rfl (gives_bin rfl rfl rfl (fun w => bin_lss w)) (fun h23 => ?_) (fun h23 => ?_)
 iterate 38 (first | refine TL.off rfl rfl rfl rfl rfl rfl ?_ | refine TL.val rfl rfl rfl (gives_pick rfl rfl rfl) ?_ | refine TL.val rfl rfl rfl (gives_move rfl rfl) ?_)
 refine TL.end_ (TX.then_ (TC.condT rfl (TC.seq_ (TC.region ?_))))
 refine TL.val rfl rfl rfl (gives_assign rfl rfl) ?_
 refine TL.end_ (TX.then_ (TC.ret_ (TX.then_ret ?_)))
 refine ret_tmp Tryd.results15 rfl (fun w1 hw => ⟨congrArg (fun x => Ending.returned (.int .i64 x)) ?_, hw.bel⟩)
 rotate_left
 refine TL.val rfl rfl rfl (gives_pick rfl rfl rfl) ?_
 refine TL.val rfl rfl rfl (gives_move rfl rfl) ?_
 refine TL.on rfl rfl rfl ?_
 refine TL.val rfl rfl rfl (gives_field rfl rfl (fun w => fR3 _ w)) ?_
 refine TL.on rfl rfl rfl ?_
 refine TL.val rfl rfl rfl (pm_load (k := 0) rfl rfl agI rfl rfl) ?_
 refine TL.on rfl rfl rfl ?_
 refine TL.vsplit rfl rfl rfl (gives_bin rfl rfl rfl (fun w => bin_gtr w)) (fun h28 => ?_) (fun h28 => ?_)
 iterate 33 (first | refine TL.off rfl rfl rfl rfl rfl rfl ?_ | refine TL.val rfl rfl rfl (gives_pick rfl rfl rfl) ?_ | refine TL.val rfl rfl rfl (gives_move rfl rfl) ?_)
 refine TL.end_ (TX.then_ (TC.condT rfl (TC.seq_ (TC.region ?_))))
 refine TL.val rfl rfl rfl (gives_assign rfl rfl) ?_
 refine TL.end_ (TX.then_ (TC.ret_ (TX.then_ret ?_)))
 refine ret_tmp Tryd.results15 rfl (fun w1 hw => ⟨congrArg (fun x => Ending.returned (.int .i64 x)) ?_, hw.bel⟩)
 rotate_left
 refine TL.val rfl rfl rfl (gives_pick rfl rfl rfl) ?_
 refine TL.val rfl rfl rfl (gives_move rfl rfl) ?_
 refine TL.on rfl rfl rfl ?_
 refine TL.val rfl rfl rfl (gives_field rfl rfl (fun w => fR10 _ w)) ?_
 refine TL.on rfl rfl rfl ?_
 refine TL.val rfl rfl rfl (pm_load (k := 0) rfl rfl agI rfl rfl) ?_
 refine TL.on rfl rfl rfl ?_
 refine TL.val rfl rfl rfl (gives_field rfl rfl (fun w => fR3 _ w)) ?_
 refine TL.on rfl rfl rfl ?_
 refine TL.val rfl rfl rfl (pm_load (k := 0) rfl rfl agI rfl rfl) ?_
 refine TL.on rfl rfl rfl ?_
 refine TL.vsplit rfl rfl rfl (gives_bin rfl rfl rfl (fun w => bin_lss w)) (fun h35 => ?_) (fun h35 => ?_)
 iterate 26 (first | refine TL.off rfl rfl rfl rfl rfl rfl ?_ | refine TL.val rfl rfl rfl (gives_pick rfl rfl rfl) ?_ | refine TL.val rfl rfl rfl (gives_move rfl rfl) ?_)
 refine TL.end_ (TX.then_ (TC.condT rfl (TC.seq_ (TC.region ?_))))
 refine TL.val rfl rfl rfl (gives_assign rfl rfl) ?_
 refine TL.end_ (TX.then_ (TC.ret_ (TX.then_ret ?_)))
 refine ret_tmp Tryd.results15 rfl (fun w1 hw => ⟨congrArg (fun x => Ending.returned (.int .i64 x)) ?_, hw.bel⟩)
 rotate_left
 refine TL.val rfl rfl rfl (gives_pick rfl rfl rfl) ?_
 refine TL.val rfl rfl rfl (gives_move rfl rfl) ?_
 refine TL.on rfl rfl rfl ?_
 refine TL.val rfl rfl rfl (gives_field rfl rfl (fun w => fR10 _ w)) ?_
 refine TL.on rfl rfl rfl ?_
 refine TL.val rfl rfl rfl (pm_load (k := 0) rfl rfl agI rfl rfl) ?_
 refine TL.on rfl rfl rfl ?_
 refine TL.vsplit rfl rfl rfl (gives_bin rfl rfl rfl (fun w => bin_gtr w)) (fun h40 => ?_) (fun h40 => ?_)
 iterate 21 (first | refine TL.off rfl rfl rfl rfl rfl rfl ?_ | refine TL.val rfl rfl rfl (gives_pick rfl rfl rfl) ?_ | refine TL.val rfl rfl rfl (gives_move rfl rfl) ?_)
 refine TL.end_ (TX.then_ (TC.condT rfl (TC.seq_ (TC.region ?_))))
 refine TL.val rfl rfl rfl (gives_assign rfl rfl) ?_
 refine TL.end_ (TX.then_ (TC.ret_ (TX.then_ret ?_)))
 refine ret_tmp Tryd.results15 rfl (fun w1 hw => ⟨congrArg (fun x => Ending.returned (.int .i64 x)) ?_, hw.bel⟩)
 rotate_left
 refine TL.val rfl rfl rfl (gives_pick rfl rfl rfl) ?_
 refine TL.val rfl rfl rfl (gives_move rfl rfl) ?_
 refine TL.on rfl rfl rfl ?_
 refine TL.val rfl rfl rfl (gives_field rfl rfl (fun w => fR6 _ w)) ?_
 refine TL.on rfl rfl rfl ?_
 refine TL.val rfl rfl rfl (pm_load (k := 0) rfl rfl agI rfl rfl) ?_
 refine TL.on rfl rfl rfl ?_
 refine TL.vsplit rfl rfl rfl (gives_bin rfl rfl rfl (fun w => bin_lss w)) (fun h45 => ?_) (fun h45 => ?_)
 iterate 16 (first | refine TL.off rfl rfl rfl rfl rfl rfl ?_ | refine TL.val rfl rfl rfl (gives_pick rfl rfl rfl) ?_ | refine TL.val rfl rfl rfl (gives_move rfl rfl) ?_)
 refine TL.end_ (TX.then_ (TC.condT rfl (TC.seq_ (TC.region ?_))))
 refine TL.val rfl rfl rfl (gives_assign rfl rfl) ?_
 refine TL.end_ (TX.then_ (TC.ret_ (TX.then_ret ?_)))
 refine ret_tmp Tryd.results15 rfl (fun w1 hw => ⟨congrArg (fun x => Ending.returned (.int .i64 x)) ?_, hw.bel⟩)
 rotate_left
 refine TL.val rfl rfl rfl (gives_pick rfl rfl rfl) ?_
 refine TL.val rfl rfl rfl (gives_move rfl rfl) ?_
 refine TL.on rfl rfl rfl ?_
 refine TL.val rfl rfl rfl (gives_field rfl rfl (fun w => fR6 _ w)) ?_
 refine TL.on rfl rfl rfl ?_
 refine TL.val rfl rfl rfl (pm_load (k := 0) rfl rfl agI rfl rfl) ?_
 refine TL.on rfl rfl rfl ?_
 refine TL.vsplit rfl rfl rfl (gives_bin rfl rfl rfl (fun w => bin_gtr w)) (fun h50 => ?_) (fun h50 => ?_)
 iterate 11 (first | refine TL.off rfl rfl rfl rfl rfl rfl ?_ | refine TL.val rfl rfl rfl (gives_pick rfl rfl rfl) ?_ | refine TL.val rfl rfl rfl (gives_move rfl rfl) ?_)
 refine TL.end_ (TX.then_ (TC.condT rfl (TC.seq_ (TC.region ?_))))
 refine TL.val rfl rfl rfl (gives_assign rfl rfl) ?_
 refine TL.end_ (TX.then_ (TC.ret_ (TX.then_ret ?_)))
 refine ret_tmp Tryd.results15 rfl (fun w1 hw => ⟨congrArg (fun x => Ending.returned (.int .i64 x)) ?_, hw.bel⟩)
 rotate_left
 refine TL.val rfl rfl rfl (gives_pick rfl rfl rfl) ?_
 refine TL.val rfl rfl rfl (gives_move rfl rfl) ?_
 refine TL.on rfl rfl rfl ?_
 refine TL.val rfl rfl rfl (gives_field rfl rfl (fun w => fR7 _ w)) ?_
 refine TL.on rfl rfl rfl ?_
 refine TL.val rfl rfl rfl (pm_load (k := 0) rfl rfl agI rfl rfl) ?_
 refine TL.on rfl rfl rfl ?_
 refine TL.vsplit rfl rfl rfl (gives_bin rfl rfl rfl (fun w => bin_lss w)) (fun h55 => ?_) (fun h55 => ?_)
 iterate 6 (first | refine TL.off rfl rfl rfl rfl rfl rfl ?_ | refine TL.val rfl rfl rfl (gives_pick rfl rfl rfl) ?_ | refine TL.val rfl rfl rfl (gives_move rfl rfl) ?_)
 refine TL.end_ (TX.then_ (TC.condT rfl (TC.seq_ (TC.region ?_))))
 refine TL.val rfl rfl rfl (gives_assign rfl rfl) ?_
 refine TL.end_ (TX.then_ (TC.ret_ (TX.then_ret ?_)))
 refine ret_tmp Tryd.results15 rfl (fun w1 hw => ⟨congrArg (fun x => Ending.returned (.int .i64 x)) ?_, hw.bel⟩)
 rotate_left
 refine TL.val rfl rfl rfl (gives_pick rfl rfl rfl) ?_
 refine TL.val rfl rfl rfl (gives_move rfl rfl) ?_
 refine TL.on rfl rfl rfl ?_
 refine TL.val rfl rfl rfl (gives_field rfl rfl (fun w => fR7 _ w)) ?_
 refine TL.on rfl rfl rfl ?_
 refine TL.val rfl rfl rfl (pm_load (k := 0) rfl rfl agI rfl rfl) ?_
 refine TL.on rfl rfl rfl ?_
 refine TL.vsplit rfl rfl rfl (gives_bin rfl rfl rfl (fun w => bin_gtr w)) (fun h60 => ?_) (fun h60 => ?_)
 refine TL.val rfl rfl rfl (gives_pick rfl rfl rfl) ?_
 refine TL.end_ (TX.then_ (TC.condT rfl (TC.seq_ (TC.region ?_))))
 refine TL.val rfl rfl rfl (gives_assign rfl rfl) ?_
 refine TL.end_ (TX.then_ (TC.ret_ (TX.then_ret ?_)))
 refine ret_tmp Tryd.results15 rfl (fun w1 hw => ⟨congrArg (fun x => Ending.returned (.int .i64 x)) ?_, hw.bel⟩)
 rotate_left
 refine TL.val rfl rfl rfl (gives_pick rfl rfl rfl) ?_
 refine TL.end_ (TX.then_ (TC.condF rfl (TC.skip_ (TX.then_ ?_))))
 refine TC.join (α := PLift (proto = 1 ∨ proto = 6 ∨ proto = 17)) (fun _ => [(1, .pointer (some ⟨g1, 0, none⟩))]) (fun _ => Pm w [.blk g1 27 [.int .i64 v, .int .i64 run, .int .i64 num, .int .i64 at_, .int .u32 dst, .int .i64 proto, .int .i64 flow, .int .i64 ttl, .bool true, .bool false, .int .i64 back, .int .u32 src, .int .i64 kind, .int .i64 code, .int .i64 left, .int .i64 id, .int .i64 quo]]) ?_ ?_
 refine TC.seq_ (TC.region ?_)
 refine TL.val rfl rfl rfl (gives_field rfl rfl (fun w => fR5 _ w)) ?_
 refine TL.val rfl rfl rfl (pm_load (k := 0) rfl rfl agI rfl rfl) ?_
 refine TL.vsplit rfl rfl rfl (gives_bin rfl rfl rfl (fun w => bin_neq w)) (fun h64 => ?_) (fun h64 => ?_)
 refine TL.val rfl rfl rfl (gives_move rfl rfl) ?_
 refine TL.on rfl rfl rfl ?_
 refine TL.val rfl rfl rfl (gives_field rfl rfl (fun w => fR5 _ w)) ?_
 refine TL.on rfl rfl rfl ?_
 refine TL.val rfl rfl rfl (pm_load (k := 0) rfl rfl agI rfl rfl) ?_
 refine TL.on rfl rfl rfl ?_
 refine TL.vsplit rfl rfl rfl (gives_bin rfl rfl rfl (fun w => bin_neq w)) (fun h68 => ?_) (fun h68 => ?_)
 refine TL.val rfl rfl rfl (gives_pick rfl rfl rfl) ?_
 refine TL.val rfl rfl rfl (gives_move rfl rfl) ?_
 refine TL.on rfl rfl rfl ?_
 refine TL.val rfl rfl rfl (gives_field rfl rfl (fun w => fR5 _ w)) ?_
 refine TL.on rfl rfl rfl ?_
 refine TL.val rfl rfl rfl (pm_load (k := 0) rfl rfl agI rfl rfl) ?_
 refine TL.on rfl rfl rfl ?_
 refine TL.vsplit rfl rfl rfl (gives_bin rfl rfl rfl (fun w => bin_neq w)) (fun h73 => ?_) (fun h73 => ?_)
 refine TL.val rfl rfl rfl (gives_pick rfl rfl rfl) ?_
 refine TL.end_ (TX.then_ (TC.condT rfl (TC.seq_ (TC.region ?_))))
 refine TL.val rfl rfl rfl (gives_assign rfl rfl) ?_
 refine TL.end_ (TX.then_ (TC.ret_ (TX.then_ret ?_)))
 refine ret_tmp Tryd.results15 rfl (fun w1 hw => ⟨congrArg (fun x => Ending.returned (.int .i64 x)) ?_, hw.bel⟩)
 rotate_left
 refine TL.val rfl rfl rfl (gives_pick rfl rfl rfl) ?_
 refine TL.end_ (TX.then_ (TC.condF rfl (TC.skip_ ?_)))
 exact TX.joined (⟨by simp only [decide_eq_true_eq, decide_eq_false_iff_not] at *; omega⟩) (⟨rfl, trivial⟩) (fun w hw => hw)
 iterate 6 (first | refine TL.off rfl rfl rfl rfl rfl rfl ?_ | refine TL.val rfl rfl rfl (gives_pick rfl rfl rfl) ?_ | refine TL.val rfl rfl rfl (gives_move rfl rfl) ?_)
 refine TL.end_ (TX.then_ (TC.condF rfl (TC.skip_ ?_)))
 exact TX.joined (⟨by simp only [decide_eq_true_eq, decide_eq_false_iff_not] at *; omega⟩) (⟨rfl, trivial⟩) (fun w hw => hw)
 iterate 10 (first | refine TL.off rfl rfl rfl rfl rfl rfl ?_ | refine TL.val rfl rfl rfl (gives_move rfl rfl) ?_ | refine TL.val rfl rfl rfl (gives_pick rfl rfl rfl) ?_)
 refine TL.end_ (TX.then_ (TC.condF rfl (TC.skip_ ?_)))
 exact TX.joined (⟨by simp only [decide_eq_true_eq, decide_eq_false_iff_not] at *; omega⟩) (⟨rfl, trivial⟩) (fun w hw => hw)
 rintro ⟨hproto⟩
 refine TC.seq_ (TC.region ?_)
 refine TL.val rfl rfl rfl (gives_field rfl rfl (fun w => fR11 _ w)) ?_
 refine TL.val rfl rfl rfl (pm_loadAgg (k := 0) (n := 6) rfl rfl agA szA rfl (Nat.le_refl 17)) ?_
 refine TL.pnew rfl rfl rfl (exec_alloc (cs := [.int .u32 0, .int .i64 0, .int .i64 0, .int .i64 0, .int .i64 0, .int .i64 0]) rfl zeroA rfl) (fun g3 => ?_)
 refine TL.pstore (k := 0) (vs := [.int .u32 src, .int .i64 kind, .int .i64 code, .int .i64 left, .int .i64 id, .int .i64 quo]) rfl rfl rfl rfl rfl rfl rfl szA (oneA _ _ _ _ _ _) (Nat.le_refl 6) (L' := [.blk g3 25 [.int .u32 src, .int .i64 kind, .int .i64 code, .int .i64 left, .int .i64 id, .int .i64 quo], .blk g1 27 [.int .i64 v, .int .i64 run, .int .i64 num, .int .i64 at_, .int .u32 dst, .int .i64 proto, .int .i64 flow, .int .i64 ttl, .bool true, .bool false, .int .i64 back, .int .u32 src, .int .i64 kind, .int .i64 code, .int .i64 left, .int .i64 id, .int .i64 quo]]) rfl ?_
 refine TL.end_ (TX.then_ (TC.seq_ (TC.seq_ (TC.region ?_))))
 refine TL.val rfl rfl rfl (gives_field rfl rfl (fun w => fR8 _ w)) ?_
 refine TL.val rfl rfl rfl (pm_load (k := 1) rfl rfl agB rfl rfl) ?_
 iterate 10 (first | refine TL.off rfl rfl rfl rfl rfl rfl ?_ | refine TL.offU rfl rfl rfl rfl rfl ?_ | refine TL.val rfl rfl rfl (gives_move rfl rfl) ?_ | refine TL.val rfl rfl rfl (gives_pick rfl rfl rfl) ?_ | refine TL.val rfl rfl rfl (gives_boolnot rfl rfl) ?_)
 refine TL.end_ (TX.then_ (TC.condF rfl (TC.skip_ (TX.then_ (TC.seq_ (TC.seq_ (TC.region ?_)))))))
 refine TL.val rfl rfl rfl (gives_field rfl rfl (fun w => fR8 _ w)) ?_
 refine TL.val rfl rfl rfl (pm_load (k := 1) rfl rfl agB rfl rfl) ?_
 refine TL.val rfl rfl rfl (gives_move rfl rfl) ?_
 refine TL.on rfl rfl rfl ?_
 refine TL.val rfl rfl rfl (gives_field rfl rfl (fun w => fA1 _ w)) ?_
 refine TL.on rfl rfl rfl ?_
 refine TL.val rfl rfl rfl (pm_load (k := 0) rfl rfl agI rfl rfl) ?_
 refine TL.on rfl rfl rfl ?_
 refine TL.vsplit rfl rfl rfl (gives_bin rfl rfl rfl (fun w => bin_lss w)) (fun h94 => ?_) (fun h94 => ?_)
 iterate 46 (first | refine TL.off rfl rfl rfl rfl rfl rfl ?_ | refine TL.on rfl rfl rfl ?_ | refine TL.val rfl rfl rfl (gives_pick rfl rfl rfl) ?_ | refine TL.val rfl rfl rfl (gives_move rfl rfl) ?_)
 refine TL.end_ (TX.then_ (TC.condT rfl (TC.seq_ (TC.region ?_))))
 refine TL.val rfl rfl rfl (gives_assign rfl rfl) ?_
 refine TL.end_ (TX.then_ (TC.ret_ (TX.then_ret ?_)))
 refine ret_tmp Tryd.results15 rfl (fun w1 hw => ⟨congrArg (fun x => Ending.returned (.int .i64 x)) ?_, hw.bel⟩)
 rotate_left
 refine TL.on rfl rfl rfl ?_
 refine TL.val rfl rfl rfl (gives_move rfl rfl) ?_
 refine TL.on rfl rfl rfl ?_
 refine TL.val rfl rfl rfl (gives_field rfl rfl (fun w => fA1 _ w)) ?_
 refine TL.on rfl rfl rfl ?_
 refine TL.val rfl rfl rfl (pm_load (k := 0) rfl rfl agI rfl rfl) ?_
 refine TL.on rfl rfl rfl ?_
 refine TL.vsplit rfl rfl rfl (gives_bin rfl rfl rfl (fun w => bin_gtr w)) (fun h98 => ?_) (fun h98 => ?_)
 iterate 41 (first | refine TL.off rfl rfl rfl rfl rfl rfl ?_ | refine TL.on rfl rfl rfl ?_ | refine TL.val rfl rfl rfl (gives_pick rfl rfl rfl) ?_ | refine TL.val rfl rfl rfl (gives_move rfl rfl) ?_)
 refine TL.end_ (TX.then_ (TC.condT rfl (TC.seq_ (TC.region ?_))))
 refine TL.val rfl rfl rfl (gives_assign rfl rfl) ?_
 refine TL.end_ (TX.then_ (TC.ret_ (TX.then_ret ?_)))
 refine ret_tmp Tryd.results15 rfl (fun w1 hw => ⟨congrArg (fun x => Ending.returned (.int .i64 x)) ?_, hw.bel⟩)
 rotate_left
 iterate 5 (first | refine TL.on rfl rfl rfl ?_ | refine TL.val rfl rfl rfl (gives_move rfl rfl) ?_ | refine TL.val rfl rfl rfl (gives_pick rfl rfl rfl) ?_)
 refine TL.val rfl rfl rfl (gives_field rfl rfl (fun w => fA2 _ w)) ?_
 refine TL.on rfl rfl rfl ?_
 refine TL.val rfl rfl rfl (pm_load (k := 0) rfl rfl agI rfl rfl) ?_
 refine TL.on rfl rfl rfl ?_
 refine TL.callsplit rfl rfl rfl rfl rfl Tryd.func48 nmOctet bdOctet (fun w1 hw => octet_any code w1) (fun h103 => ?_) (fun h103 => ?_)
 iterate 7 (first | refine TL.on rfl rfl rfl ?_ | refine TL.val rfl rfl rfl (gives_move rfl rfl) ?_ | refine TL.val rfl rfl rfl (gives_pick rfl rfl rfl) ?_ | refine TL.val rfl rfl rfl (gives_boolnot rfl rfl) ?_)
 refine TL.val rfl rfl rfl (gives_field rfl rfl (fun w => fA3 _ w)) ?_
 refine TL.on rfl rfl rfl ?_
 refine TL.val rfl rfl rfl (pm_load (k := 0) rfl rfl agI rfl rfl) ?_
 refine TL.on rfl rfl rfl ?_
 refine TL.callsplit rfl rfl rfl rfl rfl Tryd.func48 nmOctet bdOctet (fun w1 hw => octet_any left w1) (fun h109 => ?_) (fun h109 => ?_)
 iterate 7 (first | refine TL.on rfl rfl rfl ?_ | refine TL.val rfl rfl rfl (gives_move rfl rfl) ?_ | refine TL.val rfl rfl rfl (gives_pick rfl rfl rfl) ?_ | refine TL.val rfl rfl rfl (gives_boolnot rfl rfl) ?_)
 refine TL.val rfl rfl rfl (gives_field rfl rfl (fun w => fA5 _ w)) ?_
 refine TL.on rfl rfl rfl ?_
 refine TL.val rfl rfl rfl (pm_load (k := 0) rfl rfl agI rfl rfl) ?_
 refine TL.on rfl rfl rfl ?_
 refine TL.callsplit rfl rfl rfl rfl rfl Tryd.func48 nmOctet bdOctet (fun w1 hw => octet_any quo w1) (fun h115 => ?_) (fun h115 => ?_)
 iterate 7 (first | refine TL.on rfl rfl rfl ?_ | refine TL.val rfl rfl rfl (gives_move rfl rfl) ?_ | refine TL.val rfl rfl rfl (gives_pick rfl rfl rfl) ?_ | refine TL.val rfl rfl rfl (gives_boolnot rfl rfl) ?_)
 refine TL.val rfl rfl rfl (gives_field rfl rfl (fun w => fA4 _ w)) ?_
 refine TL.on rfl rfl rfl ?_
 refine TL.val rfl rfl rfl (pm_load (k := 0) rfl rfl agI rfl rfl) ?_
 refine TL.on rfl rfl rfl ?_
 refine TL.vsplit rfl rfl rfl (gives_bin rfl rfl rfl (fun w => bin_lss w)) (fun h121 => ?_) (fun h121 => ?_)
 iterate 10 (first | refine TL.off rfl rfl rfl rfl rfl rfl ?_ | refine TL.on rfl rfl rfl ?_ | refine TL.val rfl rfl rfl (gives_pick rfl rfl rfl) ?_ | refine TL.val rfl rfl rfl (gives_move rfl rfl) ?_)
 refine TL.end_ (TX.then_ (TC.condT rfl (TC.seq_ (TC.region ?_))))
 refine TL.val rfl rfl rfl (gives_assign rfl rfl) ?_
 refine TL.end_ (TX.then_ (TC.ret_ (TX.then_ret ?_)))
 refine ret_tmp Tryd.results15 rfl (fun w1 hw => ⟨congrArg (fun x => Ending.returned (.int .i64 x)) ?_, hw.bel⟩)
 rotate_left
 iterate 5 (first | refine TL.on rfl rfl rfl ?_ | refine TL.val rfl rfl rfl (gives_move rfl rfl) ?_ | refine TL.val rfl rfl rfl (gives_pick rfl rfl rfl) ?_)
 refine TL.val rfl rfl rfl (gives_field rfl rfl (fun w => fA4 _ w)) ?_
 refine TL.on rfl rfl rfl ?_
 refine TL.val rfl rfl rfl (pm_load (k := 0) rfl rfl agI rfl rfl) ?_
 refine TL.on rfl rfl rfl ?_
 refine TL.vsplit rfl rfl rfl (gives_bin rfl rfl rfl (fun w => bin_gtr w)) (fun h126 => ?_) (fun h126 => ?_)
 refine TL.on rfl rfl rfl ?_
 refine TL.val rfl rfl rfl (gives_pick rfl rfl rfl) ?_
 refine TL.val rfl rfl rfl (gives_pick rfl rfl rfl) ?_
 refine TL.end_ (TX.then_ (TC.condT rfl (TC.seq_ (TC.region ?_))))
 refine TL.val rfl rfl rfl (gives_assign rfl rfl) ?_
 refine TL.end_ (TX.then_ (TC.ret_ (TX.then_ret ?_)))
 refine ret_tmp Tryd.results15 rfl (fun w1 hw => ⟨congrArg (fun x => Ending.returned (.int .i64 x)) ?_, hw.bel⟩)
 rotate_left
 refine TL.on rfl rfl rfl ?_
 refine TL.val rfl rfl rfl (gives_pick rfl rfl rfl) ?_
 refine TL.val rfl rfl rfl (gives_pick rfl rfl rfl) ?_
 refine TL.end_ (TX.then_ (TC.condF rfl (TC.skip_ (TX.then_ (TC.seq_ (TC.region ?_))))))
 refine TL.val rfl rfl rfl (gives_assign rfl rfl) ?_
 refine TL.end_ (TX.then_ (TC.ret_ ?_))
 refine ret_tmp Tryd.results15 rfl (fun w1 hw => ⟨congrArg (fun x => Ending.returned (.int .i64 x)) ?_, hw.bel⟩)
 rotate_left
 iterate 19 (first | refine TL.off rfl rfl rfl rfl rfl rfl ?_ | refine TL.on rfl rfl rfl ?_ | refine TL.val rfl rfl rfl (gives_pick rfl rfl rfl) ?_ | refine TL.val rfl rfl rfl (gives_move rfl rfl) ?_ | refine TL.val rfl rfl rfl (gives_boolnot rfl rfl) ?_)
 refine TL.end_ (TX.then_ (TC.condT rfl (TC.seq_ (TC.region ?_))))
 refine TL.val rfl rfl rfl (gives_assign rfl rfl) ?_
 refine TL.end_ (TX.then_ (TC.ret_ (TX.then_ret ?_)))
 refine ret_tmp Tryd.results15 rfl (fun w1 hw => ⟨congrArg (fun x => Ending.returned (.int .i64 x)) ?_, hw.bel⟩)
 rotate_left
 iterate 27 (first | refine TL.off rfl rfl rfl rfl rfl rfl ?_ | refine TL.on rfl rfl rfl ?_ | refine TL.val rfl rfl rfl (gives_pick rfl rfl rfl) ?_ | refine TL.val rfl rfl rfl (gives_move rfl rfl) ?_ | refine TL.val rfl rfl rfl (gives_boolnot rfl rfl) ?_)
 refine TL.end_ (TX.then_ (TC.condT rfl (TC.seq_ (TC.region ?_))))
 refine TL.val rfl rfl rfl (gives_assign rfl rfl) ?_
 refine TL.end_ (TX.then_ (TC.ret_ (TX.then_ret ?_)))
 refine ret_tmp Tryd.results15 rfl (fun w1 hw => ⟨congrArg (fun x => Ending.returned (.int .i64 x)) ?_, hw.bel⟩)
 rotate_left
 iterate 35 (first | refine TL.off rfl rfl rfl rfl rfl rfl ?_ | refine TL.on rfl rfl rfl ?_ | refine TL.val rfl rfl rfl (gives_pick rfl rfl rfl) ?_ | refine TL.val rfl rfl rfl (gives_move rfl rfl) ?_ | refine TL.val rfl rfl rfl (gives_boolnot rfl rfl) ?_)
 refine TL.end_ (TX.then_ (TC.condT rfl (TC.seq_ (TC.region ?_))))
 refine TL.val rfl rfl rfl (gives_assign rfl rfl) ?_
 refine TL.end_ (TX.then_ (TC.ret_ (TX.then_ret ?_)))
 refine ret_tmp Tryd.results15 rfl (fun w1 hw => ⟨congrArg (fun x => Ending.returned (.int .i64 x)) ?_, hw.bel⟩)
 rotate_left
 iterate 53 (first | refine TL.off rfl rfl rfl rfl rfl rfl ?_ | refine TL.val rfl rfl rfl (gives_move rfl rfl) ?_ | refine TL.val rfl rfl rfl (gives_pick rfl rfl rfl) ?_ | refine TL.val rfl rfl rfl (gives_boolnot rfl rfl) ?_)
 refine TL.end_ (TX.then_ (TC.condT rfl (TC.seq_ (TC.region ?_))))
 refine TL.val rfl rfl rfl (gives_assign rfl rfl) ?_
 refine TL.end_ (TX.then_ (TC.ret_ (TX.then_ret ?_)))
 refine ret_tmp Tryd.results15 rfl (fun w1 hw => ⟨congrArg (fun x => Ending.returned (.int .i64 x)) ?_, hw.bel⟩)
 rotate_left
 all_goals (simp only [decide_eq_true_eq, decide_eq_false_iff_not] at *; first | exact chk_range (by unfold Rs.inRange; dsimp only; omega) | exact chk_ans rfl (by unfold Rs.inRange; dsimp only; omega) (by dsimp only; omega) (by unfold Rs.ansOk; dsimp only; omega) | (simp only [chkR, Rs.inRange, Rs.ansOk, Rs.noAns]; (try split) <;> (try split) <;> (try split) <;> (try split) <;> first | rfl | omega | (simp_all; done) | (simp_all; omega)))
set_option maxHeartbeats 2000000 in
theorem rcheck_any_tt (v run num at_ dst proto flow ttl back src kind code left id quo : Int) (w : World) :
  Calls Tryd.prog 15 #[.agg #[.int .i64 v, .int .i64 run, .int .i64 num, .int .i64 at_, .int .u32 dst, .int .i64 proto, .int .i64 flow, .int .i64 ttl, .bool true, .bool true, .int .i64 back, .int .u32 src, .int .i64 kind, .int .i64 code, .int .i64 left, .int .i64 id, .int .i64 quo]] w fun e w' => e = .returned (.int .i64 (chkR ⟨v, run, num, at_, dst, proto, flow, ttl, true, true, back, src, kind, code, left, id, quo⟩)) ∧ Below w.heap.size w w' := by
 refine begin_ (vs := [.agg #[.int .i64 v, .int .i64 run, .int .i64 num, .int .i64 at_, .int .u32 dst, .int .i64 proto, .int .i64 flow, .int .i64 ttl, .bool true, .bool true, .int .i64 back, .int .u32 src, .int .i64 kind, .int .i64 code, .int .i64 left, .int .i64 id, .int .i64 quo]]) Tryd.func15 rfl rfl rfl ?_ (Pm.start w)
 refine TC.seq_ (TC.region ?_)
 refine TL.pnew rfl rfl rfl (exec_box (cs := [.int .i64 v, .int .i64 run, .int .i64 num, .int .i64 at_, .int .u32 dst, .int .i64 proto, .int .i64 flow, .int .i64 ttl, .bool true, .bool true, .int .i64 back, .int .u32 src, .int .i64 kind, .int .i64 code, .int .i64 left, .int .i64 id, .int .i64 quo]) rfl rfl rfl) (fun g1 => ?_)
 refine TL.val rfl rfl rfl (gives_assign rfl rfl) ?_
 refine TL.end_ (TX.then_ (TC.seq_ (TC.seq_ (TC.region ?_))))
 refine TL.val rfl rfl rfl (gives_field rfl rfl (fun w => fR0 _ w)) ?_
 refine TL.val rfl rfl rfl (pm_load (k := 0) rfl rfl agI rfl rfl) ?_
 refine TL.val rfl rfl rfl (gives_field rfl rfl (fun w => fR1 _ w)) ?_
 refine TL.val rfl rfl rfl (pm_load (k := 0) rfl rfl agI rfl rfl) ?_
 refine TL.callsplit rfl rfl rfl rfl rfl Tryd.func47 nmIdent bdIdent (fun w1 hw => ident_any v run w1) (fun h8 => ?_) (fun h8 => ?_)
 refine TL.val rfl rfl rfl (gives_boolnot rfl rfl) ?_
 refine TL.val rfl rfl rfl (gives_move rfl rfl) ?_
 refine TL.on rfl rfl rfl ?_
 refine TL.val rfl rfl rfl (gives_field rfl rfl (fun w => fR2 _ w)) ?_
 refine TL.on rfl rfl rfl ?_
 refine TL.val rfl rfl rfl (pm_load (k := 0) rfl rfl agI rfl rfl) ?_
 refine TL.on rfl rfl rfl ?_
 refine TL.vsplit rfl rfl rfl (gives_bin rfl rfl rfl (fun w => bin_lss w)) (fun h13 => ?_) (fun h13 => ?_)
 iterate 48 (first | refine TL.off rfl rfl rfl rfl rfl rfl ?_ | refine TL.val rfl rfl rfl (gives_pick rfl rfl rfl) ?_ | refine TL.val rfl rfl rfl (gives_move rfl rfl) ?_)
 refine TL.end_ (TX.then_ (TC.condT rfl (TC.seq_ (TC.region ?_))))
 refine TL.val rfl rfl rfl (gives_assign rfl rfl) ?_
 refine TL.end_ (TX.then_ (TC.ret_ (TX.then_ret ?_)))
 refine ret_tmp Tryd.results15 rfl (fun w1 hw => ⟨congrArg (fun x => Ending.returned (.int .i64 x)) ?_, hw.bel⟩)
 rotate_left
 refine TL.val rfl rfl rfl (gives_pick rfl rfl rfl) ?_
 refine TL.val rfl rfl rfl (gives_move rfl rfl) ?_
 refine TL.on rfl rfl rfl ?_
 refine TL.val rfl rfl rfl (gives_field rfl rfl (fun w => fR2 _ w)) ?_
 refine TL.on rfl rfl rfl ?_
 refine TL.val rfl rfl rfl (pm_load (k := 0) rfl rfl agI rfl rfl) ?_
 refine TL.on rfl rfl rfl ?_
 refine TL.vsplit rfl rfl rfl (gives_bin rfl rfl rfl (fun w => bin_geq w)) (fun h18 => ?_) (fun h18 => ?_)
 iterate 43 (first | refine TL.off rfl rfl rfl rfl rfl rfl ?_ | refine TL.val rfl rfl rfl (gives_pick rfl rfl rfl) ?_ | refine TL.val rfl rfl rfl (gives_move rfl rfl) ?_)
 refine TL.end_ (TX.then_ (TC.condT rfl (TC.seq_ (TC.region ?_))))
 refine TL.val rfl rfl rfl (gives_assign rfl rfl) ?_
 refine TL.end_ (TX.then_ (TC.ret_ (TX.then_ret ?_)))
 refine ret_tmp Tryd.results15 rfl (fun w1 hw => ⟨congrArg (fun x => Ending.returned (.int .i64 x)) ?_, hw.bel⟩)
 rotate_left
 refine TL.val rfl rfl rfl (gives_pick rfl rfl rfl) ?_
 refine TL.val rfl rfl rfl (gives_move rfl rfl) ?_
 refine TL.on rfl rfl rfl ?_
 refine TL.val rfl rfl rfl (gives_field rfl rfl (fun w => fR3 _ w)) ?_
 refine TL.on rfl rfl rfl ?_
 refine TL.val rfl rfl rfl (pm_load (k := 0) rfl rfl agI rfl rfl) ?_
 refine TL.on rfl rfl rfl ?_
 refine TL.vsplit rfl rfl rfl (gives_bin rfl rfl rfl (fun w => bin_lss w)) (fun h23 => ?_) (fun h23 => ?_)
 iterate 38 (first | refine TL.off rfl rfl rfl rfl rfl rfl ?_ | refine TL.val rfl rfl rfl (gives_pick rfl rfl rfl) ?_ | refine TL.val rfl rfl rfl (gives_move rfl rfl) ?_)
 refine TL.end_ (TX.then_ (TC.condT rfl (TC.seq_ (TC.region ?_))))
 refine TL.val rfl rfl rfl (gives_assign rfl rfl) ?_
 refine TL.end_ (TX.then_ (TC.ret_ (TX.then_ret ?_)))
 refine ret_tmp Tryd.results15 rfl (fun w1 hw => ⟨congrArg (fun x => Ending.returned (.int .i64 x)) ?_, hw.bel⟩)
 rotate_left
 refine TL.val rfl rfl rfl (gives_pick rfl rfl rfl) ?_
 refine TL.val rfl rfl rfl (gives_move rfl rfl) ?_
 refine TL.on rfl rfl rfl ?_
 refine TL.val rfl rfl rfl (gives_field rfl rfl (fun w => fR3 _ w)) ?_
 refine TL.on rfl rfl rfl ?_
 refine TL.val rfl rfl rfl (pm_load (k := 0) rfl rfl agI rfl rfl) ?_
 refine TL.on rfl rfl rfl ?_
 refine TL.vsplit rfl rfl rfl (gives_bin rfl rfl rfl (fun w => bin_gtr w)) (fun h28 => ?_) (fun h28 => ?_)
 iterate 33 (first | refine TL.off rfl rfl rfl rfl rfl rfl ?_ | refine TL.val rfl rfl rfl (gives_pick rfl rfl rfl) ?_ | refine TL.val rfl rfl rfl (gives_move rfl rfl) ?_)
 refine TL.end_ (TX.then_ (TC.condT rfl (TC.seq_ (TC.region ?_))))
 refine TL.val rfl rfl rfl (gives_assign rfl rfl) ?_
 refine TL.end_ (TX.then_ (TC.ret_ (TX.then_ret ?_)))
 refine ret_tmp Tryd.results15 rfl (fun w1 hw => ⟨congrArg (fun x => Ending.returned (.int .i64 x)) ?_, hw.bel⟩)
 rotate_left
 refine TL.val rfl rfl rfl (gives_pick rfl rfl rfl) ?_
 refine TL.val rfl rfl rfl (gives_move rfl rfl) ?_
 refine TL.on rfl rfl rfl ?_
 refine TL.val rfl rfl rfl (gives_field rfl rfl (fun w => fR10 _ w)) ?_
 refine TL.on rfl rfl rfl ?_
 refine TL.val rfl rfl rfl (pm_load (k := 0) rfl rfl agI rfl rfl) ?_
 refine TL.on rfl rfl rfl ?_
 refine TL.val rfl rfl rfl (gives_field rfl rfl (fun w => fR3 _ w)) ?_
 refine TL.on rfl rfl rfl ?_
 refine TL.val rfl rfl rfl (pm_load (k := 0) rfl rfl agI rfl rfl) ?_
 refine TL.on rfl rfl rfl ?_
 refine TL.vsplit rfl rfl rfl (gives_bin rfl rfl rfl (fun w => bin_lss w)) (fun h35 => ?_) (fun h35 => ?_)
 iterate 26 (first | refine TL.off rfl rfl rfl rfl rfl rfl ?_ | refine TL.val rfl rfl rfl (gives_pick rfl rfl rfl) ?_ | refine TL.val rfl rfl rfl (gives_move rfl rfl) ?_)
 refine TL.end_ (TX.then_ (TC.condT rfl (TC.seq_ (TC.region ?_))))
 refine TL.val rfl rfl rfl (gives_assign rfl rfl) ?_
 refine TL.end_ (TX.then_ (TC.ret_ (TX.then_ret ?_)))
 refine ret_tmp Tryd.results15 rfl (fun w1 hw => ⟨congrArg (fun x => Ending.returned (.int .i64 x)) ?_, hw.bel⟩)
 rotate_left
 refine TL.val rfl rfl rfl (gives_pick rfl rfl rfl) ?_
 refine TL.val rfl rfl rfl (gives_move rfl rfl) ?_
 refine TL.on rfl rfl rfl ?_
 refine TL.val rfl rfl rfl (gives_field rfl rfl (fun w => fR10 _ w)) ?_
 refine TL.on rfl rfl rfl ?_
 refine TL.val rfl rfl rfl (pm_load (k := 0) rfl rfl agI rfl rfl) ?_
 refine TL.on rfl rfl rfl ?_
 refine TL.vsplit rfl rfl rfl (gives_bin rfl rfl rfl (fun w => bin_gtr w)) (fun h40 => ?_) (fun h40 => ?_)
 iterate 21 (first | refine TL.off rfl rfl rfl rfl rfl rfl ?_ | refine TL.val rfl rfl rfl (gives_pick rfl rfl rfl) ?_ | refine TL.val rfl rfl rfl (gives_move rfl rfl) ?_)
 refine TL.end_ (TX.then_ (TC.condT rfl (TC.seq_ (TC.region ?_))))
 refine TL.val rfl rfl rfl (gives_assign rfl rfl) ?_
 refine TL.end_ (TX.then_ (TC.ret_ (TX.then_ret ?_)))
 refine ret_tmp Tryd.results15 rfl (fun w1 hw => ⟨congrArg (fun x => Ending.returned (.int .i64 x)) ?_, hw.bel⟩)
 rotate_left
 refine TL.val rfl rfl rfl (gives_pick rfl rfl rfl) ?_
 refine TL.val rfl rfl rfl (gives_move rfl rfl) ?_
 refine TL.on rfl rfl rfl ?_
 refine TL.val rfl rfl rfl (gives_field rfl rfl (fun w => fR6 _ w)) ?_
 refine TL.on rfl rfl rfl ?_
 refine TL.val rfl rfl rfl (pm_load (k := 0) rfl rfl agI rfl rfl) ?_
 refine TL.on rfl rfl rfl ?_
 refine TL.vsplit rfl rfl rfl (gives_bin rfl rfl rfl (fun w => bin_lss w)) (fun h45 => ?_) (fun h45 => ?_)
 iterate 16 (first | refine TL.off rfl rfl rfl rfl rfl rfl ?_ | refine TL.val rfl rfl rfl (gives_pick rfl rfl rfl) ?_ | refine TL.val rfl rfl rfl (gives_move rfl rfl) ?_)
 refine TL.end_ (TX.then_ (TC.condT rfl (TC.seq_ (TC.region ?_))))
 refine TL.val rfl rfl rfl (gives_assign rfl rfl) ?_
 refine TL.end_ (TX.then_ (TC.ret_ (TX.then_ret ?_)))
 refine ret_tmp Tryd.results15 rfl (fun w1 hw => ⟨congrArg (fun x => Ending.returned (.int .i64 x)) ?_, hw.bel⟩)
 rotate_left
 refine TL.val rfl rfl rfl (gives_pick rfl rfl rfl) ?_
 refine TL.val rfl rfl rfl (gives_move rfl rfl) ?_
 refine TL.on rfl rfl rfl ?_
 refine TL.val rfl rfl rfl (gives_field rfl rfl (fun w => fR6 _ w)) ?_
 refine TL.on rfl rfl rfl ?_
 refine TL.val rfl rfl rfl (pm_load (k := 0) rfl rfl agI rfl rfl) ?_
 refine TL.on rfl rfl rfl ?_
 refine TL.vsplit rfl rfl rfl (gives_bin rfl rfl rfl (fun w => bin_gtr w)) (fun h50 => ?_) (fun h50 => ?_)
 iterate 11 (first | refine TL.off rfl rfl rfl rfl rfl rfl ?_ | refine TL.val rfl rfl rfl (gives_pick rfl rfl rfl) ?_ | refine TL.val rfl rfl rfl (gives_move rfl rfl) ?_)
 refine TL.end_ (TX.then_ (TC.condT rfl (TC.seq_ (TC.region ?_))))
 refine TL.val rfl rfl rfl (gives_assign rfl rfl) ?_
 refine TL.end_ (TX.then_ (TC.ret_ (TX.then_ret ?_)))
 refine ret_tmp Tryd.results15 rfl (fun w1 hw => ⟨congrArg (fun x => Ending.returned (.int .i64 x)) ?_, hw.bel⟩)
 rotate_left
 refine TL.val rfl rfl rfl (gives_pick rfl rfl rfl) ?_
 refine TL.val rfl rfl rfl (gives_move rfl rfl) ?_
 refine TL.on rfl rfl rfl ?_
 refine TL.val rfl rfl rfl (gives_field rfl rfl (fun w => fR7 _ w)) ?_
 refine TL.on rfl rfl rfl ?_
 refine TL.val rfl rfl rfl (pm_load (k := 0) rfl rfl agI rfl rfl) ?_
 refine TL.on rfl rfl rfl ?_
 refine TL.vsplit rfl rfl rfl (gives_bin rfl rfl rfl (fun w => bin_lss w)) (fun h55 => ?_) (fun h55 => ?_)
 iterate 6 (first | refine TL.off rfl rfl rfl rfl rfl rfl ?_ | refine TL.val rfl rfl rfl (gives_pick rfl rfl rfl) ?_ | refine TL.val rfl rfl rfl (gives_move rfl rfl) ?_)
 refine TL.end_ (TX.then_ (TC.condT rfl (TC.seq_ (TC.region ?_))))
 refine TL.val rfl rfl rfl (gives_assign rfl rfl) ?_
 refine TL.end_ (TX.then_ (TC.ret_ (TX.then_ret ?_)))
 refine ret_tmp Tryd.results15 rfl (fun w1 hw => ⟨congrArg (fun x => Ending.returned (.int .i64 x)) ?_, hw.bel⟩)
 rotate_left
 refine TL.val rfl rfl rfl (gives_pick rfl rfl rfl) ?_
 refine TL.val rfl rfl rfl (gives_move rfl rfl) ?_
 refine TL.on rfl rfl rfl ?_
 refine TL.val rfl rfl rfl (gives_field rfl rfl (fun w => fR7 _ w)) ?_
 refine TL.on rfl rfl rfl ?_
 refine TL.val rfl rfl rfl (pm_load (k := 0) rfl rfl agI rfl rfl) ?_
 refine TL.on rfl rfl rfl ?_
 refine TL.vsplit rfl rfl rfl (gives_bin rfl rfl rfl (fun w => bin_gtr w)) (fun h60 => ?_) (fun h60 => ?_)
 refine TL.val rfl rfl rfl (gives_pick rfl rfl rfl) ?_
 refine TL.end_ (TX.then_ (TC.condT rfl (TC.seq_ (TC.region ?_))))
 refine TL.val rfl rfl rfl (gives_assign rfl rfl) ?_
 refine TL.end_ (TX.then_ (TC.ret_ (TX.then_ret ?_)))
 refine ret_tmp Tryd.results15 rfl (fun w1 hw => ⟨congrArg (fun x => Ending.returned (.int .i64 x)) ?_, hw.bel⟩)
 rotate_left
 refine TL.val rfl rfl rfl (gives_pick rfl rfl rfl) ?_
 refine TL.end_ (TX.then_ (TC.condF rfl (TC.skip_ (TX.then_ ?_))))
 refine TC.join (α := PLift (proto = 1 ∨ proto = 6 ∨ proto = 17)) (fun _ => [(1, .pointer (some ⟨g1, 0, none⟩))]) (fun _ => Pm w [.blk g1 27 [.int .i64 v, .int .i64 run, .int .i64 num, .int .i64 at_, .int .u32 dst, .int .i64 proto, .int .i64 flow, .int .i64 ttl, .bool true, .bool true, .int .i64 back, .int .u32 src, .int .i64 kind, .int .i64 code, .int .i64 left, .int .i64 id, .int .i64 quo]]) ?_ ?_
 refine TC.seq_ (TC.region ?_)
 refine TL.val rfl rfl rfl (gives_field rfl rfl (fun w => fR5 _ w)) ?_
 refine TL.val rfl rfl rfl (pm_load (k := 0) rfl rfl agI rfl rfl) ?_
 refine TL.vsplit rfl rfl rfl (gives_bin rfl rfl rfl (fun w => bin_neq w)) (fun h64 => ?_) (fun h64 => ?_)
 refine TL.val rfl rfl rfl (gives_move rfl rfl) ?_
 refine TL.on rfl rfl rfl ?_
 refine TL.val rfl rfl rfl (gives_field rfl rfl (fun w => fR5 _ w)) ?_
 refine TL.on rfl rfl rfl ?_
 refine TL.val rfl rfl rfl (pm_load (k := 0) rfl rfl agI rfl rfl) ?_
 refine TL.on rfl rfl rfl ?_
 refine TL.vsplit rfl rfl rfl (gives_bin rfl rfl rfl (fun w => bin_neq w)) (fun h68 => ?_) (fun h68 => ?_)
 refine TL.val rfl rfl rfl (gives_pick rfl rfl rfl) ?_
 refine TL.val rfl rfl rfl (gives_move rfl rfl) ?_
 refine TL.on rfl rfl rfl ?_
 refine TL.val rfl rfl rfl (gives_field rfl rfl (fun w => fR5 _ w)) ?_
 refine TL.on rfl rfl rfl ?_
 refine TL.val rfl rfl rfl (pm_load (k := 0) rfl rfl agI rfl rfl) ?_
 refine TL.on rfl rfl rfl ?_
 refine TL.vsplit rfl rfl rfl (gives_bin rfl rfl rfl (fun w => bin_neq w)) (fun h73 => ?_) (fun h73 => ?_)
 refine TL.val rfl rfl rfl (gives_pick rfl rfl rfl) ?_
 refine TL.end_ (TX.then_ (TC.condT rfl (TC.seq_ (TC.region ?_))))
 refine TL.val rfl rfl rfl (gives_assign rfl rfl) ?_
 refine TL.end_ (TX.then_ (TC.ret_ (TX.then_ret ?_)))
 refine ret_tmp Tryd.results15 rfl (fun w1 hw => ⟨congrArg (fun x => Ending.returned (.int .i64 x)) ?_, hw.bel⟩)
 rotate_left
 refine TL.val rfl rfl rfl (gives_pick rfl rfl rfl) ?_
 refine TL.end_ (TX.then_ (TC.condF rfl (TC.skip_ ?_)))
 exact TX.joined (⟨by simp only [decide_eq_true_eq, decide_eq_false_iff_not] at *; omega⟩) (⟨rfl, trivial⟩) (fun w hw => hw)
 iterate 6 (first | refine TL.off rfl rfl rfl rfl rfl rfl ?_ | refine TL.val rfl rfl rfl (gives_pick rfl rfl rfl) ?_ | refine TL.val rfl rfl rfl (gives_move rfl rfl) ?_)
 refine TL.end_ (TX.then_ (TC.condF rfl (TC.skip_ ?_)))
 exact TX.joined (⟨by simp only [decide_eq_true_eq, decide_eq_false_iff_not] at *; omega⟩) (⟨rfl, trivial⟩) (fun w hw => hw)
 iterate 10 (first | refine TL.off rfl rfl rfl rfl rfl rfl ?_ | refine TL.val rfl rfl rfl (gives_move rfl rfl) ?_ | refine TL.val rfl rfl rfl (gives_pick rfl rfl rfl) ?_)
 refine TL.end_ (TX.then_ (TC.condF rfl (TC.skip_ ?_)))
 exact TX.joined (⟨by simp only [decide_eq_true_eq, decide_eq_false_iff_not] at *; omega⟩) (⟨rfl, trivial⟩) (fun w hw => hw)
 rintro ⟨hproto⟩
 refine TC.seq_ (TC.region ?_)
 refine TL.val rfl rfl rfl (gives_field rfl rfl (fun w => fR11 _ w)) ?_
 refine TL.val rfl rfl rfl (pm_loadAgg (k := 0) (n := 6) rfl rfl agA szA rfl (Nat.le_refl 17)) ?_
 refine TL.pnew rfl rfl rfl (exec_alloc (cs := [.int .u32 0, .int .i64 0, .int .i64 0, .int .i64 0, .int .i64 0, .int .i64 0]) rfl zeroA rfl) (fun g3 => ?_)
 refine TL.pstore (k := 0) (vs := [.int .u32 src, .int .i64 kind, .int .i64 code, .int .i64 left, .int .i64 id, .int .i64 quo]) rfl rfl rfl rfl rfl rfl rfl szA (oneA _ _ _ _ _ _) (Nat.le_refl 6) (L' := [.blk g3 25 [.int .u32 src, .int .i64 kind, .int .i64 code, .int .i64 left, .int .i64 id, .int .i64 quo], .blk g1 27 [.int .i64 v, .int .i64 run, .int .i64 num, .int .i64 at_, .int .u32 dst, .int .i64 proto, .int .i64 flow, .int .i64 ttl, .bool true, .bool true, .int .i64 back, .int .u32 src, .int .i64 kind, .int .i64 code, .int .i64 left, .int .i64 id, .int .i64 quo]]) rfl ?_
 refine TL.end_ (TX.then_ (TC.seq_ (TC.seq_ (TC.region ?_))))
 refine TL.val rfl rfl rfl (gives_field rfl rfl (fun w => fR8 _ w)) ?_
 refine TL.val rfl rfl rfl (pm_load (k := 1) rfl rfl agB rfl rfl) ?_
 iterate 10 (first | refine TL.off rfl rfl rfl rfl rfl rfl ?_ | refine TL.offU rfl rfl rfl rfl rfl ?_ | refine TL.val rfl rfl rfl (gives_move rfl rfl) ?_ | refine TL.val rfl rfl rfl (gives_pick rfl rfl rfl) ?_ | refine TL.val rfl rfl rfl (gives_boolnot rfl rfl) ?_)
 refine TL.end_ (TX.then_ (TC.condF rfl (TC.skip_ (TX.then_ (TC.seq_ (TC.seq_ (TC.region ?_)))))))
 refine TL.val rfl rfl rfl (gives_field rfl rfl (fun w => fR8 _ w)) ?_
 refine TL.val rfl rfl rfl (pm_load (k := 1) rfl rfl agB rfl rfl) ?_
 refine TL.val rfl rfl rfl (gives_move rfl rfl) ?_
 refine TL.on rfl rfl rfl ?_
 refine TL.val rfl rfl rfl (gives_field rfl rfl (fun w => fA1 _ w)) ?_
 refine TL.on rfl rfl rfl ?_
 refine TL.val rfl rfl rfl (pm_load (k := 0) rfl rfl agI rfl rfl) ?_
 refine TL.on rfl rfl rfl ?_
 refine TL.vsplit rfl rfl rfl (gives_bin rfl rfl rfl (fun w => bin_lss w)) (fun h94 => ?_) (fun h94 => ?_)
 iterate 46 (first | refine TL.off rfl rfl rfl rfl rfl rfl ?_ | refine TL.on rfl rfl rfl ?_ | refine TL.val rfl rfl rfl (gives_pick rfl rfl rfl) ?_ | refine TL.val rfl rfl rfl (gives_move rfl rfl) ?_)
 refine TL.end_ (TX.then_ (TC.condT rfl (TC.seq_ (TC.region ?_))))
 refine TL.val rfl rfl rfl (gives_assign rfl rfl) ?_
 refine TL.end_ (TX.then_ (TC.ret_ (TX.then_ret ?_)))
 refine ret_tmp Tryd.results15 rfl (fun w1 hw => ⟨congrArg (fun x => Ending.returned (.int .i64 x)) ?_, hw.bel⟩)
 rotate_left
 refine TL.on rfl rfl rfl ?_
 refine TL.val rfl rfl rfl (gives_move rfl rfl) ?_
 refine TL.on rfl rfl rfl ?_
 refine TL.val rfl rfl rfl (gives_field rfl rfl (fun w => fA1 _ w)) ?_
 refine TL.on rfl rfl rfl ?_
 refine TL.val rfl rfl rfl (pm_load (k := 0) rfl rfl agI rfl rfl) ?_
 refine TL.on rfl rfl rfl ?_
 refine TL.vsplit rfl rfl rfl (gives_bin rfl rfl rfl (fun w => bin_gtr w)) (fun h98 => ?_) (fun h98 => ?_)
 iterate 41 (first | refine TL.off rfl rfl rfl rfl rfl rfl ?_ | refine TL.on rfl rfl rfl ?_ | refine TL.val rfl rfl rfl (gives_pick rfl rfl rfl) ?_ | refine TL.val rfl rfl rfl (gives_move rfl rfl) ?_)
 refine TL.end_ (TX.then_ (TC.condT rfl (TC.seq_ (TC.region ?_))))
 refine TL.val rfl rfl rfl (gives_assign rfl rfl) ?_
 refine TL.end_ (TX.then_ (TC.ret_ (TX.then_ret ?_)))
 refine ret_tmp Tryd.results15 rfl (fun w1 hw => ⟨congrArg (fun x => Ending.returned (.int .i64 x)) ?_, hw.bel⟩)
 rotate_left
 iterate 5 (first | refine TL.on rfl rfl rfl ?_ | refine TL.val rfl rfl rfl (gives_move rfl rfl) ?_ | refine TL.val rfl rfl rfl (gives_pick rfl rfl rfl) ?_)
 refine TL.val rfl rfl rfl (gives_field rfl rfl (fun w => fA2 _ w)) ?_
 refine TL.on rfl rfl rfl ?_
 refine TL.val rfl rfl rfl (pm_load (k := 0) rfl rfl agI rfl rfl) ?_
 refine TL.on rfl rfl rfl ?_
 refine TL.callsplit rfl rfl rfl rfl rfl Tryd.func48 nmOctet bdOctet (fun w1 hw => octet_any code w1) (fun h103 => ?_) (fun h103 => ?_)
 iterate 7 (first | refine TL.on rfl rfl rfl ?_ | refine TL.val rfl rfl rfl (gives_move rfl rfl) ?_ | refine TL.val rfl rfl rfl (gives_pick rfl rfl rfl) ?_ | refine TL.val rfl rfl rfl (gives_boolnot rfl rfl) ?_)
 refine TL.val rfl rfl rfl (gives_field rfl rfl (fun w => fA3 _ w)) ?_
 refine TL.on rfl rfl rfl ?_
 refine TL.val rfl rfl rfl (pm_load (k := 0) rfl rfl agI rfl rfl) ?_
 refine TL.on rfl rfl rfl ?_
 refine TL.callsplit rfl rfl rfl rfl rfl Tryd.func48 nmOctet bdOctet (fun w1 hw => octet_any left w1) (fun h109 => ?_) (fun h109 => ?_)
 iterate 7 (first | refine TL.on rfl rfl rfl ?_ | refine TL.val rfl rfl rfl (gives_move rfl rfl) ?_ | refine TL.val rfl rfl rfl (gives_pick rfl rfl rfl) ?_ | refine TL.val rfl rfl rfl (gives_boolnot rfl rfl) ?_)
 refine TL.val rfl rfl rfl (gives_field rfl rfl (fun w => fA5 _ w)) ?_
 refine TL.on rfl rfl rfl ?_
 refine TL.val rfl rfl rfl (pm_load (k := 0) rfl rfl agI rfl rfl) ?_
 refine TL.on rfl rfl rfl ?_
 refine TL.callsplit rfl rfl rfl rfl rfl Tryd.func48 nmOctet bdOctet (fun w1 hw => octet_any quo w1) (fun h115 => ?_) (fun h115 => ?_)
 iterate 7 (first | refine TL.on rfl rfl rfl ?_ | refine TL.val rfl rfl rfl (gives_move rfl rfl) ?_ | refine TL.val rfl rfl rfl (gives_pick rfl rfl rfl) ?_ | refine TL.val rfl rfl rfl (gives_boolnot rfl rfl) ?_)
 refine TL.val rfl rfl rfl (gives_field rfl rfl (fun w => fA4 _ w)) ?_
 refine TL.on rfl rfl rfl ?_
 refine TL.val rfl rfl rfl (pm_load (k := 0) rfl rfl agI rfl rfl) ?_
 refine TL.on rfl rfl rfl ?_
 refine TL.vsplit rfl rfl rfl (gives_bin rfl rfl rfl (fun w => bin_lss w)) (fun h121 => ?_) (fun h121 => ?_)
 iterate 10 (first | refine TL.off rfl rfl rfl rfl rfl rfl ?_ | refine TL.on rfl rfl rfl ?_ | refine TL.val rfl rfl rfl (gives_pick rfl rfl rfl) ?_ | refine TL.val rfl rfl rfl (gives_move rfl rfl) ?_)
 refine TL.end_ (TX.then_ (TC.condT rfl (TC.seq_ (TC.region ?_))))
 refine TL.val rfl rfl rfl (gives_assign rfl rfl) ?_
 refine TL.end_ (TX.then_ (TC.ret_ (TX.then_ret ?_)))
 refine ret_tmp Tryd.results15 rfl (fun w1 hw => ⟨congrArg (fun x => Ending.returned (.int .i64 x)) ?_, hw.bel⟩)
 rotate_left
 iterate 5 (first | refine TL.on rfl rfl rfl ?_ | refine TL.val rfl rfl rfl (gives_move rfl rfl) ?_ | refine TL.val rfl rfl rfl (gives_pick rfl rfl rfl) ?_)
 refine TL.val rfl rfl rfl (gives_field rfl rfl (fun w => fA4 _ w)) ?_
 refine TL.on rfl rfl rfl ?_
 refine TL.val rfl rfl rfl (pm_load (k := 0) rfl rfl agI rfl rfl) ?_
 refine TL.on rfl rfl rfl ?_
 refine TL.vsplit rfl rfl rfl (gives_bin rfl rfl rfl (fun w => bin_gtr w)) (fun h126 => ?_) (fun h126 => ?_)
 refine TL.on rfl rfl rfl ?_
 refine TL.val rfl rfl rfl (gives_pick rfl rfl rfl) ?_
 refine TL.val rfl rfl rfl (gives_pick rfl rfl rfl) ?_
 refine TL.end_ (TX.then_ (TC.condT rfl (TC.seq_ (TC.region ?_))))
 refine TL.val rfl rfl rfl (gives_assign rfl rfl) ?_
 refine TL.end_ (TX.then_ (TC.ret_ (TX.then_ret ?_)))
 refine ret_tmp Tryd.results15 rfl (fun w1 hw => ⟨congrArg (fun x => Ending.returned (.int .i64 x)) ?_, hw.bel⟩)
 rotate_left
 refine TL.on rfl rfl rfl ?_
 refine TL.val rfl rfl rfl (gives_pick rfl rfl rfl) ?_
 refine TL.val rfl rfl rfl (gives_pick rfl rfl rfl) ?_
 refine TL.end_ (TX.then_ (TC.condF rfl (TC.skip_ (TX.then_ (TC.seq_ (TC.region ?_))))))
 refine TL.val rfl rfl rfl (gives_assign rfl rfl) ?_
 refine TL.end_ (TX.then_ (TC.ret_ ?_))
 refine ret_tmp Tryd.results15 rfl (fun w1 hw => ⟨congrArg (fun x => Ending.returned (.int .i64 x)) ?_, hw.bel⟩)
 rotate_left
 iterate 19 (first | refine TL.off rfl rfl rfl rfl rfl rfl ?_ | refine TL.on rfl rfl rfl ?_ | refine TL.val rfl rfl rfl (gives_pick rfl rfl rfl) ?_ | refine TL.val rfl rfl rfl (gives_move rfl rfl) ?_ | refine TL.val rfl rfl rfl (gives_boolnot rfl rfl) ?_)
 refine TL.end_ (TX.then_ (TC.condT rfl (TC.seq_ (TC.region ?_))))
 refine TL.val rfl rfl rfl (gives_assign rfl rfl) ?_
 refine TL.end_ (TX.then_ (TC.ret_ (TX.then_ret ?_)))
 refine ret_tmp Tryd.results15 rfl (fun w1 hw => ⟨congrArg (fun x => Ending.returned (.int .i64 x)) ?_, hw.bel⟩)
 rotate_left
 iterate 27 (first | refine TL.off rfl rfl rfl rfl rfl rfl ?_ | refine TL.on rfl rfl rfl ?_ | refine TL.val rfl rfl rfl (gives_pick rfl rfl rfl) ?_ | refine TL.val rfl rfl rfl (gives_move rfl rfl) ?_ | refine TL.val rfl rfl rfl (gives_boolnot rfl rfl) ?_)
 refine TL.end_ (TX.then_ (TC.condT rfl (TC.seq_ (TC.region ?_))))
 refine TL.val rfl rfl rfl (gives_assign rfl rfl) ?_
 refine TL.end_ (TX.then_ (TC.ret_ (TX.then_ret ?_)))
 refine ret_tmp Tryd.results15 rfl (fun w1 hw => ⟨congrArg (fun x => Ending.returned (.int .i64 x)) ?_, hw.bel⟩)
 rotate_left
 iterate 35 (first | refine TL.off rfl rfl rfl rfl rfl rfl ?_ | refine TL.on rfl rfl rfl ?_ | refine TL.val rfl rfl rfl (gives_pick rfl rfl rfl) ?_ | refine TL.val rfl rfl rfl (gives_move rfl rfl) ?_ | refine TL.val rfl rfl rfl (gives_boolnot rfl rfl) ?_)
 refine TL.end_ (TX.then_ (TC.condT rfl (TC.seq_ (TC.region ?_))))
 refine TL.val rfl rfl rfl (gives_assign rfl rfl) ?_
 refine TL.end_ (TX.then_ (TC.ret_ (TX.then_ret ?_)))
 refine ret_tmp Tryd.results15 rfl (fun w1 hw => ⟨congrArg (fun x => Ending.returned (.int .i64 x)) ?_, hw.bel⟩)
 rotate_left
 iterate 53 (first | refine TL.off rfl rfl rfl rfl rfl rfl ?_ | refine TL.val rfl rfl rfl (gives_move rfl rfl) ?_ | refine TL.val rfl rfl rfl (gives_pick rfl rfl rfl) ?_ | refine TL.val rfl rfl rfl (gives_boolnot rfl rfl) ?_)
 refine TL.end_ (TX.then_ (TC.condT rfl (TC.seq_ (TC.region ?_))))
 refine TL.val rfl rfl rfl (gives_assign rfl rfl) ?_
 refine TL.end_ (TX.then_ (TC.ret_ (TX.then_ret ?_)))
 refine ret_tmp Tryd.results15 rfl (fun w1 hw => ⟨congrArg (fun x => Ending.returned (.int .i64 x)) ?_, hw.bel⟩)
 rotate_left
 all_goals (simp only [decide_eq_true_eq, decide_eq_false_iff_not] at *; first | exact chk_range (by unfold Rs.inRange; dsimp only; omega) | exact chk_ans rfl (by unfold Rs.inRange; dsimp only; omega) (by dsimp only; omega) (by unfold Rs.ansOk; dsimp only; omega) | (simp only [chkR, Rs.inRange, Rs.ansOk, Rs.noAns]; (try split) <;> (try split) <;> (try split) <;> (try split) <;> first | rfl | omega | (simp_all; done) | (simp_all; omega)))
theorem rcheck_any (r : Rs) (w : World) :
  Calls Tryd.prog 15 #[.agg r.cells.toArray] w fun e w' => e = .returned (.int .i64 (chkR r)) ∧ Below w.heap.size w w' := by
 obtain ⟨v, run, num, at_, dst, proto, flow, ttl, ans, dbl, back, src, kind, code, left, id, quo⟩ := r
 cases ans <;> cases dbl
 ·exact rcheck_any_ff v run num at_ dst proto flow ttl back src kind code left id quo w
 ·exact rcheck_any_ft v run num at_ dst proto flow ttl back src kind code left id quo w
 ·exact rcheck_any_tf v run num at_ dst proto flow ttl back src kind code left id quo w
 ·exact rcheck_any_tt v run num at_ dst proto flow ttl back src kind code left id quo w
end Go.Proofs.YtmeaeeehnkcblaaDoor

namespace Go.Proofs.YtmeaeeehnkcblaaDoor
open Go.RowKit
set_option maxRecDepth 20000
def encO (r : Rs) : List Int := if chkR r = 0 then encR r else []
def mlen (r : Rs) (i : Nat) : Nat := (encP (r.pairs.take i)).length
def cellsP (l : List (Int × Nat)) : List Value := l.flatMap fun p => [.int .i64 p.1, .int .i64 (p.2 : Int)]
theorem take_succ {r : Rs} {i : Nat} {p : Int × Nat} (h : r.pairs[i]? = some p) : r.pairs.take (i + 1) = r.pairs.take i ++ [p] := by rw [List.take_add_one, h]; rfl
theorem encP_one (x : Int) (q : Nat) : encP [(x, q)] = enc x q := by simp [encP]
theorem mlen_succ {r : Rs} {i : Nat} {p : Int × Nat} (h : r.pairs[i]? = some p) : mlen r (i + 1) = mlen r i + p.2 := by
 unfold mlen; rw [take_succ h, encP_app, List.length_append]
 obtain ⟨x, q⟩ := p
 rw [encP_one, enc_len]
theorem mlen_le (r : Rs) (i : Nat) : mlen r i ≤ 37 := by
 have h := encR_len r
 have e : encR r = encP (r.pairs.take i) ++ encP (r.pairs.drop i) := by rw [← encP_app, List.take_append_drop]; rfl
 rw [e, List.length_append] at h
 unfold mlen; omega
theorem mlen_all (r : Rs) : mlen r 16 = 37 := encR_len r
theorem pairs_w (r : Rs) : ∀ p ∈ r.pairs, 1 ≤ p.2 ∧ p.2 ≤ 7 := by
 intro p hp
 simp only [Rs.pairs, List.mem_cons, List.not_mem_nil, or_false] at hp
 rcases hp with rfl | rfl | rfl | rfl | rfl | rfl | rfl | rfl | rfl | rfl | rfl | rfl | rfl | rfl | rfl | rfl <;> exact ⟨by simp, by simp⟩
theorem flags_t {r : Rs} (h : r.dbl = true) : r.flags = (if r.ans = true then 1 else 0) + 2 := by unfold Rs.flags; rw [h]; rfl
theorem flags_f {r : Rs} (h : r.dbl = false) : r.flags = (if r.ans = true then 1 else 0) := by unfold Rs.flags; rw [h]; simp
theorem agR (w : World) : (isAgg 27).run Tryd.prog w = .ok true w := rfl
theorem szR (w : World) : (sizeOf 27).run Tryd.prog w = .ok 17 w := rfl
theorem sz2 (w : World) : (sizeOf 73).run Tryd.prog w = .ok 2 w := rfl
theorem rszI (w : World) : (sizeOf 3).run Tryd.prog w = .ok 1 w := rfl
theorem zeroW (w : World) : (zeroValue 72).run Tryd.prog w = .ok (.slice none 0 0) w := rfl
theorem zero2 (w : World) : (zeroValue 73).run Tryd.prog w = .ok (.agg #[.int .i64 0, .int .i64 0]) w := rfl
theorem build2 (x y : Int) (w : World) : (Instr.build 73 #[(0, .int .i64 x), (1, .int .i64 y)]).run Tryd.prog w = .ok (.agg #[.int .i64 x, .int .i64 y]) w := by kernel_rfl
theorem two_i {a b : Int} : ∀ u ∈ [Value.int .i64 a, .int .i64 b], u.oneCell' = true := by
 intro u hu
 simp only [List.mem_cons, List.not_mem_nil, or_false] at hu
 rcases hu with rfl | rfl <;> rfl
theorem at_int (g off n c j : Nat) (hj : j < n) (w : World) : (Instr.indexAt 76 (.slice (some ⟨g, off, none⟩) n c) (.int .i64 (j : Int))).run Tryd.prog w = .ok (.pointer (some ⟨g, off + j, none⟩)) w := by
 have hs : ∀ w : World, (sizeOf 3).run Tryd.prog w = .ok 1 w := fun w => rfl
 have h1 : (0 : Int) ≤ (j : Int) ∧ (j : Int) < n := by omega
 have hadd : (⟨g, off, none⟩ : Addr).add j = ⟨g, off + j, none⟩ := by unfold Addr.add; split <;> simp_all
 simp [Instr.indexAt, run_underlying Tryd.underlying76, asIntOf, hs, h1, hadd, go_sem]
 try (intro hh; exact absurd hh (by omega))
theorem enc_bad {r : Rs} {w w1 : World} (h : chkR r ≠ 0) (hrow : Pc.ok w.heap.size w1 (.row (.slice none 0 0) 5 1 0 [])) (hb : Below w.heap.size w w1) :
  ∃ A c, Ending.returned (.tuple #[.slice none 0 0, .int .i64 (chkR r)]) = .returned (.tuple #[.slice A (encO r).length c, .int .i64 (chkR r)]) ∧ (encO r).length ≤ c ∧ c ≤ maxLen ∧ w1.ownsRow w.heap.size 5 1 (.slice A (encO r).length c) (encO r).length (bv (encO r)) ∧ Below w.heap.size w w1 := by
 have ho : encO r = [] := if_neg h
 rw [ho]
 exact ⟨none, 0, rfl, Nat.le_refl _, Nat.zero_le _, hrow, hb⟩
theorem enc_good {r : Rs} {w w1 : World} {A : Option Addr} {c : Nat} (h : chkR r = 0) (h1 : mlen r 16 ≤ c) (h2 : c ≤ maxLen) (hrow : Pc.ok w.heap.size w1 (.row (.slice A (mlen r 16) c) 5 1 (mlen r 16) (bv (encP (r.pairs.take 16))))) (hb : Below w.heap.size w w1) :
  ∃ A' c', Ending.returned (.tuple #[.slice A (mlen r 16) c, .int .i64 0]) = .returned (.tuple #[.slice A' (encO r).length c', .int .i64 (chkR r)]) ∧ (encO r).length ≤ c' ∧ c' ≤ maxLen ∧ w1.ownsRow w.heap.size 5 1 (.slice A' (encO r).length c') (encO r).length (bv (encO r)) ∧ Below w.heap.size w w1 := by
 have ho : encO r = encP (r.pairs.take 16) := if_pos h
 rw [ho, h]
 exact ⟨A, c, rfl, h1, h2, hrow, hb⟩
theorem build16 (r : Rs) (w : World) : (Instr.build 74 #[(0, .agg #[.int .i64 r.v, .int .i64 1]), (1, .agg #[.int .i64 r.run, .int .i64 1]), (2, .agg #[.int .i64 r.num, .int .i64 2]), (3, .agg #[.int .i64 r.at_, .int .i64 7]), (4, .agg #[.int .i64 r.dst, .int .i64 4]), (5, .agg #[.int .i64 r.proto, .int .i64 1]), (6, .agg #[.int .i64 r.flow, .int .i64 2]), (7, .agg #[.int .i64 r.ttl, .int .i64 1]), (8, .agg #[.int .i64 r.flags, .int .i64 1]), (9, .agg #[.int .i64 r.back, .int .i64 7]), (10, .agg #[.int .i64 r.src, .int .i64 4]), (11, .agg #[.int .i64 r.kind, .int .i64 1]), (12, .agg #[.int .i64 r.code, .int .i64 1]), (13, .agg #[.int .i64 r.left, .int .i64 1]), (14, .agg #[.int .i64 r.id, .int .i64 2]), (15, .agg #[.int .i64 r.quo, .int .i64 1])]).run Tryd.prog w = .ok (.agg (cellsP r.pairs).toArray) w := by kernel_rfl
theorem rowN (r : Rs) (w : World) : (Instr.buildSlice 76 16 #[(0, .int .i64 r.v), (1, .int .i64 r.run), (2, .int .i64 r.num), (3, .int .i64 r.at_), (4, .int .i64 r.dst), (5, .int .i64 r.proto), (6, .int .i64 r.flow), (7, .int .i64 r.ttl), (8, .int .i64 r.flags), (9, .int .i64 r.back), (10, .int .i64 r.src), (11, .int .i64 r.kind), (12, .int .i64 r.code), (13, .int .i64 r.left), (14, .int .i64 r.id), (15, .int .i64 r.quo)]).run Tryd.prog w = .ok (.slice (some ⟨w.heap.size, 0, none⟩) 16 16) (w.alloc (.cells (r.pairs.map fun p => .int .i64 p.1).toArray 3)) := by kernel_rfl
theorem rowW (r : Rs) (w : World) : (Instr.buildSlice 76 16 #[(0, .int .i64 1), (1, .int .i64 1), (2, .int .i64 2), (3, .int .i64 7), (4, .int .i64 4), (5, .int .i64 1), (6, .int .i64 2), (7, .int .i64 1), (8, .int .i64 1), (9, .int .i64 7), (10, .int .i64 4), (11, .int .i64 1), (12, .int .i64 1), (13, .int .i64 1), (14, .int .i64 2), (15, .int .i64 1)]).run Tryd.prog w = .ok (.slice (some ⟨w.heap.size, 0, none⟩) 16 16) (w.alloc (.cells (r.pairs.map fun p => .int .i64 (p.2 : Int)).toArray 3)) := by kernel_rfl
theorem ix0 (r : Rs) (w : World) : (Instr.index 74 (.agg (cellsP r.pairs).toArray) (.int .i64 0)).run Tryd.prog w = .ok (.agg #[.int .i64 r.v, .int .i64 1]) w := by kernel_rfl
theorem ix1 (r : Rs) (w : World) : (Instr.index 74 (.agg (cellsP r.pairs).toArray) (.int .i64 1)).run Tryd.prog w = .ok (.agg #[.int .i64 r.run, .int .i64 1]) w := by kernel_rfl
theorem ix2 (r : Rs) (w : World) : (Instr.index 74 (.agg (cellsP r.pairs).toArray) (.int .i64 2)).run Tryd.prog w = .ok (.agg #[.int .i64 r.num, .int .i64 2]) w := by kernel_rfl
theorem ix3 (r : Rs) (w : World) : (Instr.index 74 (.agg (cellsP r.pairs).toArray) (.int .i64 3)).run Tryd.prog w = .ok (.agg #[.int .i64 r.at_, .int .i64 7]) w := by kernel_rfl
theorem ix4 (r : Rs) (w : World) : (Instr.index 74 (.agg (cellsP r.pairs).toArray) (.int .i64 4)).run Tryd.prog w = .ok (.agg #[.int .i64 r.dst, .int .i64 4]) w := by kernel_rfl
theorem ix5 (r : Rs) (w : World) : (Instr.index 74 (.agg (cellsP r.pairs).toArray) (.int .i64 5)).run Tryd.prog w = .ok (.agg #[.int .i64 r.proto, .int .i64 1]) w := by kernel_rfl
theorem ix6 (r : Rs) (w : World) : (Instr.index 74 (.agg (cellsP r.pairs).toArray) (.int .i64 6)).run Tryd.prog w = .ok (.agg #[.int .i64 r.flow, .int .i64 2]) w := by kernel_rfl
theorem ix7 (r : Rs) (w : World) : (Instr.index 74 (.agg (cellsP r.pairs).toArray) (.int .i64 7)).run Tryd.prog w = .ok (.agg #[.int .i64 r.ttl, .int .i64 1]) w := by kernel_rfl
theorem ix8 (r : Rs) (w : World) : (Instr.index 74 (.agg (cellsP r.pairs).toArray) (.int .i64 8)).run Tryd.prog w = .ok (.agg #[.int .i64 r.flags, .int .i64 1]) w := by kernel_rfl
theorem ix9 (r : Rs) (w : World) : (Instr.index 74 (.agg (cellsP r.pairs).toArray) (.int .i64 9)).run Tryd.prog w = .ok (.agg #[.int .i64 r.back, .int .i64 7]) w := by kernel_rfl
theorem ix10 (r : Rs) (w : World) : (Instr.index 74 (.agg (cellsP r.pairs).toArray) (.int .i64 10)).run Tryd.prog w = .ok (.agg #[.int .i64 r.src, .int .i64 4]) w := by kernel_rfl
theorem ix11 (r : Rs) (w : World) : (Instr.index 74 (.agg (cellsP r.pairs).toArray) (.int .i64 11)).run Tryd.prog w = .ok (.agg #[.int .i64 r.kind, .int .i64 1]) w := by kernel_rfl
theorem ix12 (r : Rs) (w : World) : (Instr.index 74 (.agg (cellsP r.pairs).toArray) (.int .i64 12)).run Tryd.prog w = .ok (.agg #[.int .i64 r.code, .int .i64 1]) w := by kernel_rfl
theorem ix13 (r : Rs) (w : World) : (Instr.index 74 (.agg (cellsP r.pairs).toArray) (.int .i64 13)).run Tryd.prog w = .ok (.agg #[.int .i64 r.left, .int .i64 1]) w := by kernel_rfl
theorem ix14 (r : Rs) (w : World) : (Instr.index 74 (.agg (cellsP r.pairs).toArray) (.int .i64 14)).run Tryd.prog w = .ok (.agg #[.int .i64 r.id, .int .i64 2]) w := by kernel_rfl
theorem ix15 (r : Rs) (w : World) : (Instr.index 74 (.agg (cellsP r.pairs).toArray) (.int .i64 15)).run Tryd.prog w = .ok (.agg #[.int .i64 r.quo, .int .i64 1]) w := by kernel_rfl
theorem index16 (r : Rs) (i : Nat) (hi : i < 16) {x : Int} {q : Nat} (h : r.pairs[i]? = some (x, q)) (w : World) : (Instr.index 74 (.agg (cellsP r.pairs).toArray) (.int .i64 (i : Int))).run Tryd.prog w = .ok (.agg #[.int .i64 x, .int .i64 (q : Int)]) w := by
 match i, hi, h with
 | 0, _, h => obtain ⟨rfl, rfl⟩ := Prod.mk.inj (Option.some.inj h); exact ix0 r w
 | 1, _, h => obtain ⟨rfl, rfl⟩ := Prod.mk.inj (Option.some.inj h); exact ix1 r w
 | 2, _, h => obtain ⟨rfl, rfl⟩ := Prod.mk.inj (Option.some.inj h); exact ix2 r w
 | 3, _, h => obtain ⟨rfl, rfl⟩ := Prod.mk.inj (Option.some.inj h); exact ix3 r w
 | 4, _, h => obtain ⟨rfl, rfl⟩ := Prod.mk.inj (Option.some.inj h); exact ix4 r w
 | 5, _, h => obtain ⟨rfl, rfl⟩ := Prod.mk.inj (Option.some.inj h); exact ix5 r w
 | 6, _, h => obtain ⟨rfl, rfl⟩ := Prod.mk.inj (Option.some.inj h); exact ix6 r w
 | 7, _, h => obtain ⟨rfl, rfl⟩ := Prod.mk.inj (Option.some.inj h); exact ix7 r w
 | 8, _, h => obtain ⟨rfl, rfl⟩ := Prod.mk.inj (Option.some.inj h); exact ix8 r w
 | 9, _, h => obtain ⟨rfl, rfl⟩ := Prod.mk.inj (Option.some.inj h); exact ix9 r w
 | 10, _, h => obtain ⟨rfl, rfl⟩ := Prod.mk.inj (Option.some.inj h); exact ix10 r w
 | 11, _, h => obtain ⟨rfl, rfl⟩ := Prod.mk.inj (Option.some.inj h); exact ix11 r w
 | 12, _, h => obtain ⟨rfl, rfl⟩ := Prod.mk.inj (Option.some.inj h); exact ix12 r w
 | 13, _, h => obtain ⟨rfl, rfl⟩ := Prod.mk.inj (Option.some.inj h); exact ix13 r w
 | 14, _, h => obtain ⟨rfl, rfl⟩ := Prod.mk.inj (Option.some.inj h); exact ix14 r w
 | 15, _, h => obtain ⟨rfl, rfl⟩ := Prod.mk.inj (Option.some.inj h); exact ix15 r w
 | i + 16, hi, _ => omega
theorem fA0o (g : Nat) (w : World) : (Instr.fieldAt 25 (.pointer (some ⟨g, 11, none⟩)) 0).run Tryd.prog w = .ok (.pointer (some ⟨g, 11, none⟩)) w := by kernel_rfl
theorem fA1o (g : Nat) (w : World) : (Instr.fieldAt 25 (.pointer (some ⟨g, 11, none⟩)) 1).run Tryd.prog w = .ok (.pointer (some ⟨g, 12, none⟩)) w := by kernel_rfl
theorem fA2o (g : Nat) (w : World) : (Instr.fieldAt 25 (.pointer (some ⟨g, 11, none⟩)) 2).run Tryd.prog w = .ok (.pointer (some ⟨g, 13, none⟩)) w := by kernel_rfl
theorem fA3o (g : Nat) (w : World) : (Instr.fieldAt 25 (.pointer (some ⟨g, 11, none⟩)) 3).run Tryd.prog w = .ok (.pointer (some ⟨g, 14, none⟩)) w := by kernel_rfl
theorem fA4o (g : Nat) (w : World) : (Instr.fieldAt 25 (.pointer (some ⟨g, 11, none⟩)) 4).run Tryd.prog w = .ok (.pointer (some ⟨g, 15, none⟩)) w := by kernel_rfl
theorem fA5o (g : Nat) (w : World) : (Instr.fieldAt 25 (.pointer (some ⟨g, 11, none⟩)) 5).run Tryd.prog w = .ok (.pointer (some ⟨g, 16, none⟩)) w := by kernel_rfl
theorem nmChk : (Tryd.f14.name == "runtime.NumGoroutine") = false := by decide
theorem bdChk : Tryd.f14.body.isNone = false := rfl
theorem nmRChk : (Tryd.f15.name == "runtime.NumGoroutine") = false := by decide
theorem bdRChk : Tryd.f15.body.isNone = false := rfl
theorem nmWput : (Tryd.f43.name == "runtime.NumGoroutine") = false := by decide
theorem bdWput : Tryd.f43.body.isNone = false := rfl
theorem nmPush : (Tryd.f44.name == "runtime.NumGoroutine") = false := by decide
theorem bdPush : Tryd.f44.body.isNone = false := rfl
set_option maxHeartbeats 2000000 in
theorem encode_any (r : Rs) (hok : r.Ok) (w : World) :
  Calls Tryd.prog 12 #[.agg r.cells.toArray] w fun e w' => ∃ A c, e = .returned (.tuple #[.slice A (encO r).length c, .int .i64 (chkR r)]) ∧ (encO r).length ≤ c ∧ c ≤ maxLen ∧ w'.ownsRow w.heap.size 5 1 (.slice A (encO r).length c) (encO r).length (bv (encO r)) ∧ Below w.heap.size w w' := by
 refine begin_ (vs := [.agg r.cells.toArray]) Tryd.func12 rfl rfl rfl ?_ (Pm.start w)
 refine TC.seq_ (TC.region ?_)
 refine TL.pnew rfl rfl rfl (exec_box (cs := r.cells) rfl rfl rfl) (fun g1 => ?_)
 refine TL.val rfl rfl rfl (gives_assign rfl rfl) ?_
 refine TL.val rfl rfl rfl (gives_assign rfl rfl) ?_
 refine TL.end_ (TX.then_ (TC.seq_ (TC.seq_ (TC.region ?_))))
 refine TL.val rfl rfl rfl (pm_loadAgg (k := 0) (n := 17) rfl rfl agR szR rfl (Nat.le_refl 17)) ?_
 refine TL.pcall1 (r := .int .i64 (chkR r)) rfl rfl rfl rfl rfl Tryd.func14 nmChk bdChk (fun w1 hw => check_any r w1) ?_
 refine TL.val rfl rfl rfl (gives_assign rfl rfl) ?_
 refine TL.end_ (TX.then_ (TC.seq_ (TC.region ?_)))
 refine TL.val rfl rfl rfl (gives_move rfl rfl) ?_
 refine TL.vsplit rfl rfl rfl (gives_bin rfl rfl rfl (fun w => bin_neq w)) (fun h13 => ?_) (fun h13 => ?_)
 ·refine TL.end_ (TX.then_ (TC.condT rfl (TC.seq_ (TC.region ?_))))
  refine TL.val rfl rfl rfl (gives_move rfl rfl) ?_
  refine TL.val rfl rfl rfl (gives_assign rfl rfl) ?_
  refine TL.val rfl rfl rfl (gives_assign rfl rfl) ?_
  refine TL.end_ (TX.then_ (TC.ret_ (TX.then_ret ?_)))
  refine TX.nilrow 5 1 ?_
  exact ret_pair (v1 := .slice none 0 0) (v2 := .int .i64 (chkR r)) Tryd.results12 rfl rfl (fun w1 hw => enc_bad (of_decide_eq_true h13) (hw.at_ (k := 0) rfl) hw.bel)
 ·have hchk : chkR r = 0 := Decidable.not_not.1 (of_decide_eq_false h13)
  refine TL.end_ (TX.then_ (TC.condF rfl (TC.skip_ (TX.then_ (TC.seq_ (TC.region ?_))))))
  refine TL.val rfl rfl rfl (gives_assign rfl rfl) ?_
  refine TL.end_ (TX.then_ ?_)
  refine TC.join (α := Unit) (fun _ => [(1, .pointer (some ⟨g1, 0, none⟩)), (5, .int .i64 (if r.ans = true then 1 else 0))]) (fun _ => Pm w [.blk g1 27 r.cells]) ?_ ?_
  ·refine TC.seq_ (TC.region ?_)
   refine TL.val rfl rfl rfl (gives_field rfl rfl (fun w => fR8 _ w)) ?_
   refine TL.vsplit rfl rfl rfl (pm_load (k := 0) rfl rfl agB rfl rfl) (fun h16 => ?_) (fun h16 => ?_)
   ·refine TL.end_ (TX.then_ (TC.condT rfl (TC.region ?_)))
    refine TL.val rfl rfl rfl (gives_move rfl rfl) ?_
    refine TL.val rfl rfl rfl (gives_bin rfl rfl rfl (fun w => bin_add_ (r := 1) (by decide) w)) ?_
    refine TL.val rfl rfl rfl (gives_assign rfl rfl) ?_
    refine TL.end_ ?_
    exact TX.joined (()) (⟨rfl, by rw [if_pos h16]; rfl, trivial⟩) (fun w hw => hw)
   ·refine TL.end_ (TX.then_ (TC.condF rfl (TC.skip_ ?_)))
    exact TX.joined (()) (⟨rfl, by rw [if_neg (by rw [h16]; decide)]; rfl, trivial⟩) (fun w hw => hw)
  ·rintro _
   refine TC.join (α := Unit) (fun _ => [(1, .pointer (some ⟨g1, 0, none⟩)), (5, .int .i64 r.flags)]) (fun _ => Pm w [.blk g1 27 r.cells]) ?_ ?_
   ·refine TC.seq_ (TC.region ?_)
    refine TL.val rfl rfl rfl (gives_field rfl rfl (fun w => fR9 _ w)) ?_
    refine TL.vsplit rfl rfl rfl (pm_load (k := 0) rfl rfl agB rfl rfl) (fun h20 => ?_) (fun h20 => ?_)
    ·refine TL.end_ (TX.then_ (TC.condT rfl (TC.region ?_)))
     refine TL.val rfl rfl rfl (gives_move rfl rfl) ?_
     refine TL.val rfl rfl rfl (gives_bin rfl rfl rfl (fun w => bin_add_ (r := (if r.ans = true then 1 else 0) + 2) (by split <;> rfl) w)) ?_
     refine TL.val rfl rfl rfl (gives_assign rfl rfl) ?_
     refine TL.end_ ?_
     exact TX.joined (()) (⟨rfl, by rw [flags_t h20]; rfl, trivial⟩) (fun w hw => hw)
    ·refine TL.end_ (TX.then_ (TC.condF rfl (TC.skip_ ?_)))
     exact TX.joined (()) (⟨rfl, by rw [flags_f h20]; rfl, trivial⟩) (fun w hw => hw)
   ·rintro _
    refine TC.seq_ (TC.region ?_)
    refine TL.val rfl rfl rfl (gives_field rfl rfl (fun w => fR11 _ w)) ?_
    refine TL.val rfl rfl rfl (pm_loadAgg (k := 0) (n := 6) rfl rfl agA szA rfl (Nat.le_refl 17)) ?_
    refine TL.pnew rfl rfl rfl (exec_alloc (cs := [.int .u32 0, .int .i64 0, .int .i64 0, .int .i64 0, .int .i64 0, .int .i64 0]) rfl zeroA rfl) (fun g6 => ?_)
    refine TL.pstore (k := 0) (vs := [.int .u32 r.src, .int .i64 r.kind, .int .i64 r.code, .int .i64 r.left, .int .i64 r.id, .int .i64 r.quo]) rfl rfl rfl rfl rfl rfl rfl szA (oneA _ _ _ _ _ _) (Nat.le_refl 6) (L' := [.blk g6 25 [.int .u32 r.src, .int .i64 r.kind, .int .i64 r.code, .int .i64 r.left, .int .i64 r.id, .int .i64 r.quo], .blk g1 27 r.cells]) rfl ?_
    refine TL.end_ (TX.then_ (TC.seq_ (TC.region ?_)))
    refine TL.pnew rfl rfl rfl (exec_alloc (cs := [.slice none 0 0]) rfl zeroW rfl) (fun g7 => ?_)
    refine TL.end_ (TX.then_ (TC.seq_ (TC.seq_ (TC.region ?_))))
    refine TL.val rfl rfl rfl (gives_field rfl rfl (fun w => fR0 _ w)) ?_
    refine TL.val rfl rfl rfl (pm_load (k := 2) rfl rfl agI rfl rfl) ?_
    refine TL.val rfl rfl rfl (gives_build rfl rfl (fun w => build2 _ _ w)) ?_
    refine TL.val rfl rfl rfl (gives_field rfl rfl (fun w => fR1 _ w)) ?_
    refine TL.val rfl rfl rfl (pm_load (k := 2) rfl rfl agI rfl rfl) ?_
    refine TL.val rfl rfl rfl (gives_build rfl rfl (fun w => build2 _ _ w)) ?_
    refine TL.val rfl rfl rfl (gives_field rfl rfl (fun w => fR2 _ w)) ?_
    refine TL.val rfl rfl rfl (pm_load (k := 2) rfl rfl agI rfl rfl) ?_
    refine TL.val rfl rfl rfl (gives_build rfl rfl (fun w => build2 _ _ w)) ?_
    refine TL.val rfl rfl rfl (gives_field rfl rfl (fun w => fR3 _ w)) ?_
    refine TL.val rfl rfl rfl (pm_load (k := 2) rfl rfl agI rfl rfl) ?_
    refine TL.val rfl rfl rfl (gives_build rfl rfl (fun w => build2 _ _ w)) ?_
    refine TL.val rfl rfl rfl (gives_field rfl rfl (fun w => fR4 _ w)) ?_
    refine TL.val rfl rfl rfl (pm_load (k := 2) rfl rfl agU rfl rfl) ?_
    refine TL.val rfl rfl rfl (gives_conv rfl rfl (fun w => conv_fit (k := .u32) Tryd.underlying3 Tryd.underlying22 (by simp only [IntKind.wrap_i64]; obtain ⟨e1, e2, e3, e4⟩ := hok; omega) w)) ?_
    refine TL.val rfl rfl rfl (gives_build rfl rfl (fun w => build2 _ _ w)) ?_
    refine TL.val rfl rfl rfl (gives_field rfl rfl (fun w => fR5 _ w)) ?_
    refine TL.val rfl rfl rfl (pm_load (k := 2) rfl rfl agI rfl rfl) ?_
    refine TL.val rfl rfl rfl (gives_build rfl rfl (fun w => build2 _ _ w)) ?_
    refine TL.val rfl rfl rfl (gives_field rfl rfl (fun w => fR6 _ w)) ?_
    refine TL.val rfl rfl rfl (pm_load (k := 2) rfl rfl agI rfl rfl) ?_
    refine TL.val rfl rfl rfl (gives_build rfl rfl (fun w => build2 _ _ w)) ?_
    refine TL.val rfl rfl rfl (gives_field rfl rfl (fun w => fR7 _ w)) ?_
    refine TL.val rfl rfl rfl (pm_load (k := 2) rfl rfl agI rfl rfl) ?_
    refine TL.val rfl rfl rfl (gives_build rfl rfl (fun w => build2 _ _ w)) ?_
    refine TL.val rfl rfl rfl (gives_move rfl rfl) ?_
    refine TL.val rfl rfl rfl (gives_build rfl rfl (fun w => build2 _ _ w)) ?_
    refine TL.val rfl rfl rfl (gives_field rfl rfl (fun w => fR10 _ w)) ?_
    refine TL.val rfl rfl rfl (pm_load (k := 2) rfl rfl agI rfl rfl) ?_
    refine TL.val rfl rfl rfl (gives_build rfl rfl (fun w => build2 _ _ w)) ?_
    refine TL.val rfl rfl rfl (gives_field rfl rfl (fun w => fA0 _ w)) ?_
    refine TL.val rfl rfl rfl (pm_load (k := 1) rfl rfl agU rfl rfl) ?_
    refine TL.val rfl rfl rfl (gives_conv rfl rfl (fun w => conv_fit (k := .u32) Tryd.underlying3 Tryd.underlying22 (by simp only [IntKind.wrap_i64]; obtain ⟨e1, e2, e3, e4⟩ := hok; omega) w)) ?_
    refine TL.val rfl rfl rfl (gives_build rfl rfl (fun w => build2 _ _ w)) ?_
    refine TL.val rfl rfl rfl (gives_field rfl rfl (fun w => fA1 _ w)) ?_
    refine TL.val rfl rfl rfl (pm_load (k := 1) rfl rfl agI rfl rfl) ?_
    refine TL.val rfl rfl rfl (gives_build rfl rfl (fun w => build2 _ _ w)) ?_
    refine TL.val rfl rfl rfl (gives_field rfl rfl (fun w => fA2 _ w)) ?_
    refine TL.val rfl rfl rfl (pm_load (k := 1) rfl rfl agI rfl rfl) ?_
    refine TL.val rfl rfl rfl (gives_build rfl rfl (fun w => build2 _ _ w)) ?_
    refine TL.val rfl rfl rfl (gives_field rfl rfl (fun w => fA3 _ w)) ?_
    refine TL.val rfl rfl rfl (pm_load (k := 1) rfl rfl agI rfl rfl) ?_
    refine TL.val rfl rfl rfl (gives_build rfl rfl (fun w => build2 _ _ w)) ?_
    refine TL.val rfl rfl rfl (gives_field rfl rfl (fun w => fA4 _ w)) ?_
    refine TL.val rfl rfl rfl (pm_load (k := 1) rfl rfl agI rfl rfl) ?_
    refine TL.val rfl rfl rfl (gives_build rfl rfl (fun w => build2 _ _ w)) ?_
    refine TL.val rfl rfl rfl (gives_field rfl rfl (fun w => fA5 _ w)) ?_
    refine TL.val rfl rfl rfl (pm_load (k := 1) rfl rfl agI rfl rfl) ?_
    refine TL.val rfl rfl rfl (gives_build rfl rfl (fun w => build2 _ _ w)) ?_
    refine TL.val rfl rfl rfl (gives_build (v := .agg (cellsP r.pairs).toArray) rfl rfl (fun w => build16 r w)) ?_
    refine TL.val rfl rfl rfl (gives_move rfl rfl) ?_
    refine TL.end_ (TX.then_ (TC.block ?_))
    refine TC.loop_ (α := {y : Nat × Option Addr × Nat // y.1 ≤ 16 ∧ mlen r y.1 ≤ y.2.2 ∧ y.2.2 ≤ maxLen}) (fun y => [(74, .agg (cellsP r.pairs).toArray), (75, .int .i64 (y.1.1 : Int)), (7, .pointer (some ⟨g7, 0, none⟩))]) (fun y => Pm w [.row (.slice y.1.2.1 (mlen r y.1.1) y.1.2.2) 5 1 (mlen r y.1.1) (bv (encP (r.pairs.take y.1.1))), .blk g7 72 [.slice y.1.2.1 (mlen r y.1.1) y.1.2.2]]) (fun y => 16 - y.1.1) (⟨(0, none, 0), Nat.zero_le _, Nat.zero_le _, Nat.zero_le _⟩) ⟨rfl, rfl, rfl, trivial⟩ (fun w hw => (hw.sel (.cons_cons _ (List.nil_sublist _))).nilrow 5 1) ?_
    rintro ⟨⟨i, A2, c2⟩, hi, hcc⟩
    dsimp only at hi hcc ⊢
    refine TC.seq_ (TC.region ?_)
    refine TL.vsplit rfl rfl rfl (gives_bin rfl rfl rfl (fun w => bin_lss w)) (fun h76 => ?_) (fun h76 => ?_)
    ·have hi2 : i < 16 := by have := of_decide_eq_true h76; omega
     obtain ⟨⟨x, q⟩, hxq⟩ : ∃ p, r.pairs[i]? = some p := ⟨_, List.getElem?_eq_getElem (by show i < 16; omega)⟩
     obtain ⟨hx0, hx1⟩ := pairs_fit r hchk hok _ (List.mem_of_getElem? hxq)
     obtain ⟨hq1, hq7⟩ := pairs_w r _ (List.mem_of_getElem? hxq)
     have hml := mlen_succ hxq
     dsimp only at hx0 hx1 hq1 hq7 hml
     refine TL.end_ (TX.then_ (TC.seq_ (TC.condT rfl (TC.skip_ (TX.then_ (TC.seq_ (TC.block (TC.seq_ (TC.region ?_)))))))))
     refine TL.val rfl rfl rfl (gives_index (v := .agg #[.int .i64 x, .int .i64 (q : Int)]) rfl rfl rfl (fun w => by rw [← index16 r i hi2 hxq w])) ?_
     refine TL.pnew rfl rfl rfl (exec_alloc (cs := [.int .i64 0, .int .i64 0]) rfl zero2 rfl) (fun g9 => ?_)
     refine TL.pstore (k := 0) (vs := [.int .i64 x, .int .i64 (q : Int)]) rfl rfl rfl rfl rfl rfl rfl sz2 two_i (Nat.le_refl 2) rfl ?_
     refine TL.end_ (TX.then_ (TC.region ?_))
     refine TL.val rfl rfl rfl (gives_at rfl rfl rfl (fun w => at_arr Tryd.underlying73 rszI _ 0 _ 0 (by omega) w)) ?_
     refine TL.val rfl rfl rfl (pm_load (k := 0) rfl rfl agI rfl rfl) ?_
     refine TL.val rfl rfl rfl (gives_at rfl rfl rfl (fun w => at_arr Tryd.underlying73 rszI _ 0 _ 1 (by omega) w)) ?_
     refine TL.val rfl rfl rfl (pm_load (k := 0) rfl rfl agI rfl rfl) ?_
     refine TL.pcallChg (k := 2) (α := {p : Option Addr × Nat // mlen r i + q ≤ p.2 ∧ p.2 ≤ maxLen}) (fun _ => .tuple #[]) (fun y => [.slice y.1.1 (mlen r i + q) y.1.2]) (fun y => [.row (.slice y.1.1 (mlen r i + q) y.1.2) 5 1 (mlen r i + q) (bv (encP (r.pairs.take i) ++ enc x q))]) rfl rfl rfl rfl rfl Tryd.func43 nmWput bdWput rfl (fun w1 hw => wput g7 A2 (mlen r i) c2 (encP (r.pairs.take i)) x q w1 (hw.at_ (k := 2) rfl).1 (byt_own (hw.at_ (k := 1) rfl) (encP_bs _)) (fun _ ad e => hw.ne (i := 1) (j := 2) rfl rfl (by omega) (by rw [e]; rfl) rfl) (by have := mlen_le r i; omega) hx0 hx1 hq1 hq7) ?_
     rintro ⟨⟨A3, c3⟩, hA31, hA32⟩
     dsimp only [List.cons_append, List.nil_append] at hA31 hA32 ⊢
     refine TL.end_ (TX.in_normal (TX.then_ (TC.region ?_)))
     refine TL.val rfl rfl rfl (gives_bin rfl rfl rfl (fun w => bin_add_ (r := ((i + 1 : Nat) : Int)) (by simp only [IntKind.wrap_i64]; omega) w)) ?_
     refine TL.val rfl rfl rfl (gives_move rfl rfl) ?_
     refine TL.end_ ?_
     exact TX.round (⟨(i + 1, A3, c3), hi2, by rw [hml]; exact hA31, hA32⟩) (by show 16 - (i + 1) < 16 - i; omega) ⟨rfl, rfl, rfl, trivial⟩ (fun w hw => by dsimp only; rw [hml, take_succ hxq, encP_app, encP_one]; exact hw.sel (.cons_cons _ (.cons _ (.cons _ (.cons_cons _ (List.nil_sublist _))))))
    ·have hi2 : i = 16 := by have := of_decide_eq_false h76; omega
     subst hi2
     refine TL.end_ (TX.then_ (TC.seq_ (TC.condF rfl (TC.exit_ (TX.then_exit (TX.then_exit (TX.in_same (TX.then_ (TC.seq_ (TC.region ?_))))))))))
     refine TL.val rfl rfl rfl (pm_load (k := 1) rfl rfl agW rfl rfl) ?_
     refine TL.val rfl rfl rfl (gives_assign rfl rfl) ?_
     refine TL.val rfl rfl rfl (gives_assign rfl rfl) ?_
     refine TL.end_ (TX.then_ (TC.ret_ ?_))
     exact ret_pair (v1 := .slice A2 (mlen r 16) c2) (v2 := .int .i64 0) Tryd.results12 rfl rfl (fun w1 hw => enc_good hchk hcc.1 hcc.2 (hw.at_ (k := 0) rfl) hw.bel)
set_option maxHeartbeats 2000000 in
theorem rencode_any (r : Rs) (hok : r.Ok) (w : World) :
  Calls Tryd.prog 13 #[.agg r.cells.toArray] w fun e w' => ∃ A c, e = .returned (.tuple #[.slice A (encO r).length c, .int .i64 (chkR r)]) ∧ (encO r).length ≤ c ∧ c ≤ maxLen ∧ w'.ownsRow w.heap.size 5 1 (.slice A (encO r).length c) (encO r).length (bv (encO r)) ∧ Below w.heap.size w w' := by
 refine begin_ (vs := [.agg r.cells.toArray]) Tryd.func13 rfl rfl rfl ?_ (Pm.start w)
 refine TC.seq_ (TC.region ?_)
 refine TL.pnew rfl rfl rfl (exec_box (cs := r.cells) rfl rfl rfl) (fun g1 => ?_)
 refine TL.val rfl rfl rfl (gives_assign rfl rfl) ?_
 refine TL.val rfl rfl rfl (gives_assign rfl rfl) ?_
 refine TL.end_ (TX.then_ (TC.seq_ (TC.seq_ (TC.region ?_))))
 refine TL.val rfl rfl rfl (pm_loadAgg (k := 0) (n := 17) rfl rfl agR szR rfl (Nat.le_refl 17)) ?_
 refine TL.pcall1 (r := .int .i64 (chkR r)) rfl rfl rfl rfl rfl Tryd.func15 nmRChk bdRChk (fun w1 hw => rcheck_any r w1) ?_
 refine TL.val rfl rfl rfl (gives_assign rfl rfl) ?_
 refine TL.end_ (TX.then_ (TC.seq_ (TC.region ?_)))
 refine TL.val rfl rfl rfl (gives_move rfl rfl) ?_
 refine TL.vsplit rfl rfl rfl (gives_bin rfl rfl rfl (fun w => bin_neq w)) (fun h13 => ?_) (fun h13 => ?_)
 ·refine TL.end_ (TX.then_ (TC.condT rfl (TC.seq_ (TC.region ?_))))
  refine TL.val rfl rfl rfl (gives_move rfl rfl) ?_
  refine TL.val rfl rfl rfl (gives_assign rfl rfl) ?_
  refine TL.val rfl rfl rfl (gives_assign rfl rfl) ?_
  refine TL.end_ (TX.then_ (TC.ret_ (TX.then_ret ?_)))
  refine TX.nilrow 5 1 ?_
  exact ret_pair (v1 := .slice none 0 0) (v2 := .int .i64 (chkR r)) Tryd.results13 rfl rfl (fun w1 hw => enc_bad (of_decide_eq_true h13) (hw.at_ (k := 0) rfl) hw.bel)
 ·have hchk : chkR r = 0 := Decidable.not_not.1 (of_decide_eq_false h13)
  refine TL.end_ (TX.then_ (TC.condF rfl (TC.skip_ (TX.then_ (TC.seq_ (TC.region ?_))))))
  refine TL.val rfl rfl rfl (gives_assign rfl rfl) ?_
  refine TL.end_ (TX.then_ ?_)
  refine TC.join (α := Unit) (fun _ => [(1, .pointer (some ⟨g1, 0, none⟩)), (5, .int .i64 (if r.ans = true then 1 else 0))]) (fun _ => Pm w [.blk g1 27 r.cells]) ?_ ?_
  ·refine TC.seq_ (TC.region ?_)
   refine TL.val rfl rfl rfl (gives_field rfl rfl (fun w => fR8 _ w)) ?_
   refine TL.vsplit rfl rfl rfl (pm_load (k := 0) rfl rfl agB rfl rfl) (fun h16 => ?_) (fun h16 => ?_)
   ·refine TL.end_ (TX.then_ (TC.condT rfl (TC.region ?_)))
    refine TL.val rfl rfl rfl (gives_assign rfl rfl) ?_
    refine TL.end_ ?_
    exact TX.joined (()) (⟨rfl, by rw [if_pos h16]; rfl, trivial⟩) (fun w hw => hw)
   ·refine TL.end_ (TX.then_ (TC.condF rfl (TC.skip_ ?_)))
    exact TX.joined (()) (⟨rfl, by rw [if_neg (by rw [h16]; decide)]; rfl, trivial⟩) (fun w hw => hw)
  ·rintro _
   refine TC.join (α := Unit) (fun _ => [(1, .pointer (some ⟨g1, 0, none⟩)), (5, .int .i64 r.flags)]) (fun _ => Pm w [.blk g1 27 r.cells]) ?_ ?_
   ·refine TC.seq_ (TC.region ?_)
    refine TL.val rfl rfl rfl (gives_field rfl rfl (fun w => fR9 _ w)) ?_
    refine TL.vsplit rfl rfl rfl (pm_load (k := 0) rfl rfl agB rfl rfl) (fun h18 => ?_) (fun h18 => ?_)
    ·refine TL.end_ (TX.then_ (TC.condT rfl (TC.region ?_)))
     refine TL.val rfl rfl rfl (gives_move rfl rfl) ?_
     refine TL.val rfl rfl rfl (gives_bin rfl rfl rfl (fun w => bin_add_ (r := (if r.ans = true then 1 else 0) + 2) (by split <;> rfl) w)) ?_
     refine TL.val rfl rfl rfl (gives_assign rfl rfl) ?_
     refine TL.end_ ?_
     exact TX.joined (()) (⟨rfl, by rw [flags_t h18]; rfl, trivial⟩) (fun w hw => hw)
    ·refine TL.end_ (TX.then_ (TC.condF rfl (TC.skip_ ?_)))
     exact TX.joined (()) (⟨rfl, by rw [flags_f h18]; rfl, trivial⟩) (fun w hw => hw)
   ·rintro _
    refine TC.seq_ (TC.region ?_)
    refine TL.val rfl rfl rfl (gives_field rfl rfl (fun w => fR0 _ w)) ?_
    refine TL.val rfl rfl rfl (pm_load (k := 0) rfl rfl agI rfl rfl) ?_
    refine TL.val rfl rfl rfl (gives_field rfl rfl (fun w => fR1 _ w)) ?_
    refine TL.val rfl rfl rfl (pm_load (k := 0) rfl rfl agI rfl rfl) ?_
    refine TL.val rfl rfl rfl (gives_field rfl rfl (fun w => fR2 _ w)) ?_
    refine TL.val rfl rfl rfl (pm_load (k := 0) rfl rfl agI rfl rfl) ?_
    refine TL.val rfl rfl rfl (gives_field rfl rfl (fun w => fR3 _ w)) ?_
    refine TL.val rfl rfl rfl (pm_load (k := 0) rfl rfl agI rfl rfl) ?_
    refine TL.val rfl rfl rfl (gives_field rfl rfl (fun w => fR4 _ w)) ?_
    refine TL.val rfl rfl rfl (pm_load (k := 0) rfl rfl agU rfl rfl) ?_
    refine TL.val rfl rfl rfl (gives_conv rfl rfl (fun w => conv_fit (k := .u32) Tryd.underlying3 Tryd.underlying22 (by simp only [IntKind.wrap_i64]; obtain ⟨e1, e2, e3, e4⟩ := hok; omega) w)) ?_
    refine TL.val rfl rfl rfl (gives_field rfl rfl (fun w => fR5 _ w)) ?_
    refine TL.val rfl rfl rfl (pm_load (k := 0) rfl rfl agI rfl rfl) ?_
    refine TL.val rfl rfl rfl (gives_field rfl rfl (fun w => fR6 _ w)) ?_
    refine TL.val rfl rfl rfl (pm_load (k := 0) rfl rfl agI rfl rfl) ?_
    refine TL.val rfl rfl rfl (gives_field rfl rfl (fun w => fR7 _ w)) ?_
    refine TL.val rfl rfl rfl (pm_load (k := 0) rfl rfl agI rfl rfl) ?_
    refine TL.val rfl rfl rfl (gives_move rfl rfl) ?_
    refine TL.val rfl rfl rfl (gives_field rfl rfl (fun w => fR10 _ w)) ?_
    refine TL.val rfl rfl rfl (pm_load (k := 0) rfl rfl agI rfl rfl) ?_
    refine TL.val rfl rfl rfl (gives_field rfl rfl (fun w => fR11 _ w)) ?_
    refine TL.val rfl rfl rfl (gives_field rfl rfl (fun w => fA0o _ w)) ?_
    refine TL.val rfl rfl rfl (pm_load (k := 0) rfl rfl agU rfl rfl) ?_
    refine TL.val rfl rfl rfl (gives_conv rfl rfl (fun w => conv_fit (k := .u32) Tryd.underlying3 Tryd.underlying22 (by simp only [IntKind.wrap_i64]; obtain ⟨e1, e2, e3, e4⟩ := hok; omega) w)) ?_
    refine TL.val rfl rfl rfl (gives_field rfl rfl (fun w => fR11 _ w)) ?_
    refine TL.val rfl rfl rfl (gives_field rfl rfl (fun w => fA1o _ w)) ?_
    refine TL.val rfl rfl rfl (pm_load (k := 0) rfl rfl agI rfl rfl) ?_
    refine TL.val rfl rfl rfl (gives_field rfl rfl (fun w => fR11 _ w)) ?_
    refine TL.val rfl rfl rfl (gives_field rfl rfl (fun w => fA2o _ w)) ?_
    refine TL.val rfl rfl rfl (pm_load (k := 0) rfl rfl agI rfl rfl) ?_
    refine TL.val rfl rfl rfl (gives_field rfl rfl (fun w => fR11 _ w)) ?_
    refine TL.val rfl rfl rfl (gives_field rfl rfl (fun w => fA3o _ w)) ?_
    refine TL.val rfl rfl rfl (pm_load (k := 0) rfl rfl agI rfl rfl) ?_
    refine TL.val rfl rfl rfl (gives_field rfl rfl (fun w => fR11 _ w)) ?_
    refine TL.val rfl rfl rfl (gives_field rfl rfl (fun w => fA4o _ w)) ?_
    refine TL.val rfl rfl rfl (pm_load (k := 0) rfl rfl agI rfl rfl) ?_
    refine TL.val rfl rfl rfl (gives_field rfl rfl (fun w => fR11 _ w)) ?_
    refine TL.val rfl rfl rfl (gives_field rfl rfl (fun w => fA5o _ w)) ?_
    refine TL.val rfl rfl rfl (pm_load (k := 0) rfl rfl agI rfl rfl) ?_
    refine TL.prow (e := 3) (cs := r.pairs.map fun p => .int .i64 p.1) rfl rfl rfl rfl rfl (fun w => rowN r w) (by decide) rfl (fun g5 => ?_)
    refine TL.val rfl rfl rfl (gives_assign rfl rfl) ?_
    refine TL.end_ (TX.then_ (TC.seq_ (TC.region ?_)))
    refine TL.prow (e := 3) (cs := r.pairs.map fun p => .int .i64 (p.2 : Int)) rfl rfl rfl rfl rfl (fun w => rowW r w) (by decide) rfl (fun g6 => ?_)
    refine TL.val rfl rfl rfl (gives_assign rfl rfl) ?_
    refine TL.end_ (TX.then_ (TC.seq_ (TC.region ?_)))
    refine TL.val rfl rfl rfl (gives_assign rfl rfl) ?_
    refine TL.end_ (TX.then_ (TC.seq_ (TC.seq_ (TC.region ?_))))
    refine TL.val rfl rfl rfl (gives_assign rfl rfl) ?_
    refine TL.end_ (TX.then_ (TC.block ?_))
    refine TC.loop_ (α := {y : Nat × Option Addr × Nat // y.1 ≤ 16 ∧ mlen r y.1 ≤ y.2.2 ∧ y.2.2 ≤ maxLen}) (fun y => [(8, .slice y.1.2.1 (mlen r y.1.1) y.1.2.2), (9, .int .i64 (y.1.1 : Int)), (6, .slice (some ⟨g5, 0, none⟩) 16 16), (7, .slice (some ⟨g6, 0, none⟩) 16 16)]) (fun y => Pm w [.row (.slice y.1.2.1 (mlen r y.1.1) y.1.2.2) 5 1 (mlen r y.1.1) (bv (encP (r.pairs.take y.1.1))), .row (.slice (some ⟨g6, 0, none⟩) 16 16) 3 1 16 (r.pairs.map fun p => .int .i64 (p.2 : Int)), .row (.slice (some ⟨g5, 0, none⟩) 16 16) 3 1 16 (r.pairs.map fun p => .int .i64 p.1)]) (fun y => 16 - y.1.1) (⟨(0, none, 0), Nat.zero_le _, Nat.zero_le _, Nat.zero_le _⟩) ⟨rfl, rfl, rfl, rfl, trivial⟩ (fun w hw => (hw.sel (.cons_cons _ (.cons_cons _ (List.nil_sublist _)))).nilrow 5 1) ?_
    rintro ⟨⟨i, A2, c2⟩, hi, hcc⟩
    dsimp only at hi hcc ⊢
    refine TC.seq_ (TC.seq_ (TC.region ?_))
    refine TL.val rfl rfl rfl (gives_move rfl rfl) ?_
    refine TL.val rfl rfl rfl (gives_move rfl rfl) ?_
    refine TL.val rfl rfl rfl (gives_len rfl Tryd.underlying76 rfl) ?_
    refine TL.vsplit rfl rfl rfl (gives_bin rfl rfl rfl (fun w => bin_lss w)) (fun h65 => ?_) (fun h65 => ?_)
    ·have hi2 : i < 16 := by have := of_decide_eq_true h65; omega
     obtain ⟨⟨x, q⟩, hxq⟩ : ∃ p, r.pairs[i]? = some p := ⟨_, List.getElem?_eq_getElem (by show i < 16; omega)⟩
     obtain ⟨hx0, hx1⟩ := pairs_fit r hchk hok _ (List.mem_of_getElem? hxq)
     obtain ⟨hq1, hq7⟩ := pairs_w r _ (List.mem_of_getElem? hxq)
     have hml := mlen_succ hxq
     dsimp only at hx0 hx1 hq1 hq7 hml
     refine TL.end_ (TX.then_ (TC.condT rfl (TC.skip_ (TX.then_ (TC.seq_ (TC.block ?_))))))
     refine TC.held (ls := #[false, false, false, false, false, false, false, false, false, false, false]) (Pm w [.row (.slice (some ⟨g6, 0, none⟩) 16 16) 3 1 16 (r.pairs.map fun p => .int .i64 (p.2 : Int)), .row (.slice (some ⟨g5, 0, none⟩) 16 16) 3 1 16 (r.pairs.map fun p => .int .i64 p.1)]) (by kernel_rfl) rfl rfl (fun w hw => hw.drawn _) ?_
     refine TH.take (listed' := #[true, false, false, false, false, false, false, false, false, false, false]) 0 rfl (by kernel_rfl) (by kernel_rfl) (by kernel_rfl) rfl rfl rfl rfl (gives_move rfl rfl) (fun w hw => hw.sel (.cons _ (List.Sublist.refl _))) ?_
     refine TH.take (listed' := #[true, true, false, false, false, false, false, false, false, false, false]) 1 rfl (by kernel_rfl) (by kernel_rfl) (by kernel_rfl) rfl rfl rfl rfl (gives_move rfl rfl) (fun w hw => hw.sel (.cons _ (List.Sublist.refl _))) ?_
     refine TH.take (listed' := #[true, true, true, false, false, false, false, false, false, false, false]) 2 rfl (by kernel_rfl) (by kernel_rfl) (by kernel_rfl) rfl rfl rfl rfl (gives_move rfl rfl) (fun w hw => hw.sel (.cons _ (List.Sublist.refl _))) ?_
     refine TH.take (listed' := #[true, true, true, true, false, false, false, false, false, false, false]) 3 rfl (by kernel_rfl) (by kernel_rfl) (by kernel_rfl) rfl rfl rfl rfl (gives_at rfl rfl rfl (fun w => at_int g5 0 16 16 i hi2 w)) (fun w hw => hw.sel (.cons _ (List.Sublist.refl _))) ?_
     refine TH.take (listed' := #[true, true, true, true, true, false, false, false, false, false, false]) 4 rfl (by kernel_rfl) (by kernel_rfl) (by kernel_rfl) rfl rfl rfl rfl (pm_loadRow (k := 1) (v := .int .i64 x) rfl rfl (fun w => rfl) rfl (by rw [Nat.zero_add]; simp [hxq])) (fun w hw => hw.sel (.cons _ (List.Sublist.refl _))) ?_
     refine TH.take (listed' := #[true, true, true, true, true, true, false, false, false, false, false]) 5 rfl (by kernel_rfl) (by kernel_rfl) (by kernel_rfl) rfl rfl rfl rfl (gives_move rfl rfl) (fun w hw => hw.sel (.cons _ (List.Sublist.refl _))) ?_
     refine TH.take (listed' := #[true, true, true, true, true, true, true, false, false, false, false]) 6 rfl (by kernel_rfl) (by kernel_rfl) (by kernel_rfl) rfl rfl rfl rfl (gives_move rfl rfl) (fun w hw => hw.sel (.cons _ (List.Sublist.refl _))) ?_
     refine TH.take (listed' := #[true, true, true, true, true, true, true, true, false, false, false]) 7 rfl (by kernel_rfl) (by kernel_rfl) (by kernel_rfl) rfl rfl rfl rfl (gives_at rfl rfl rfl (fun w => at_int g6 0 16 16 i hi2 w)) (fun w hw => hw.sel (.cons _ (List.Sublist.refl _))) ?_
     refine TH.take (listed' := #[true, true, true, true, true, true, true, true, true, false, false]) 8 rfl (by kernel_rfl) (by kernel_rfl) (by kernel_rfl) rfl rfl rfl rfl (pm_loadRow (k := 0) (v := .int .i64 (q : Int)) rfl rfl (fun w => rfl) rfl (by rw [Nat.zero_add]; simp [hxq])) (fun w hw => hw.sel (.cons _ (List.Sublist.refl _))) ?_
     refine TH.only (listed' := #[true, true, true, true, true, true, true, true, true, true, false]) 9 rfl (by kernel_rfl) rfl rfl ?_
     refine TL.pcallRow (n := mlen r i + q) (ys := bv (encP (r.pairs.take i) ++ enc x q)) rfl rfl rfl rfl rfl Tryd.func44 nmPush bdPush (fun w1 hw => jpush A2 (mlen r i) c2 (encP (r.pairs.take i)) x q w1 (byt_own (hw.at_ (k := 0) rfl) (encP_bs _)) (by have := mlen_le r i; omega) hx0 hx1 hq1 hq7) (fun A3 c3 hA31 hA32 => ?_)
     refine TL.end_ ?_
     refine TX.held (fun w hw => hw.sel (.cons _ (.cons _ (List.Sublist.refl _)))) ?_
     refine TH.take (listed' := #[true, true, true, true, true, true, true, true, true, true, true]) 10 rfl (by kernel_rfl) (by kernel_rfl) (by kernel_rfl) rfl rfl rfl rfl (gives_assign rfl rfl) (fun w hw => hw.sel (.cons _ (.cons _ (List.Sublist.refl _)))) ?_
     refine TH.done (by kernel_rfl) ?_
     refine TX.in_normal (TX.then_ (TC.region ?_))
     refine TL.val rfl rfl rfl (gives_move rfl rfl) ?_
     refine TL.val rfl rfl rfl (gives_bin rfl rfl rfl (fun w => bin_add_ (r := ((i + 1 : Nat) : Int)) (by simp only [IntKind.wrap_i64]; omega) w)) ?_
     refine TL.val rfl rfl rfl (gives_assign rfl rfl) ?_
     refine TL.end_ ?_
     exact TX.round (⟨(i + 1, A3, c3), hi2, by rw [hml]; exact hA31, hA32⟩) (by show 16 - (i + 1) < 16 - i; omega) ⟨by dsimp only; rw [hml]; rfl, rfl, rfl, rfl, trivial⟩ (fun w hw => by dsimp only; rw [hml, take_succ hxq, encP_app, encP_one]; exact hw.sel (.cons_cons _ (.cons _ (List.Sublist.refl _))))
    ·have hi2 : i = 16 := by have := of_decide_eq_false h65; omega
     subst hi2
     refine TL.end_ (TX.then_ (TC.condF rfl (TC.exit_ (TX.then_exit (TX.then_exit (TX.in_same (TX.then_ (TC.seq_ (TC.region ?_)))))))))
     refine TL.val rfl rfl rfl (gives_move rfl rfl) ?_
     refine TL.val rfl rfl rfl (gives_assign rfl rfl) ?_
     refine TL.val rfl rfl rfl (gives_assign rfl rfl) ?_
     refine TL.end_ (TX.then_ (TC.ret_ ?_))
     exact ret_pair (v1 := .slice A2 (mlen r 16) c2) (v2 := .int .i64 0) Tryd.results13 rfl rfl (fun w1 hw => enc_good hchk hcc.1 hcc.2 (hw.at_ (k := 0) rfl) hw.bel)
end Go.Proofs.YtmeaeeehnkcblaaDoor

namespace Go.Proofs.YtmeaeeehnkcblaaDoor
open Go.RowKit
set_option maxRecDepth 20000
def rsj : List Int := [82, 83, 74, 49]
def headOk (l : List Int) : Prop := l.take 4 = rsj ∧ getN l 8 1 ≤ 64
instance (l : List Int) : Decidable (headOk l) := by unfold headOk; infer_instance
def lenN (l : List Int) : Int := if l.length < 41 then 0 else if ¬ headOk l then 0 else 41 + 37 * getN l 8 1 + 32
def lenE (l : List Int) : Int := if l.length < 41 then 3 else if ¬ headOk l then 2 else 0
theorem rsj_bs : Bs rsj := by intro x hx; simp only [rsj, List.mem_cons, List.not_mem_nil, or_false] at hx; omega
theorem len_short {l : List Int} (h : l.length < 41) : lenN l = 0 ∧ lenE l = 3 := ⟨if_pos h, if_pos h⟩
theorem len_form {l : List Int} (h : ¬ l.length < 41) (hx : ¬ headOk l) : lenN l = 0 ∧ lenE l = 2 := ⟨by rw [lenN, if_neg h, if_pos hx], by rw [lenE, if_neg h, if_pos hx]⟩
theorem len_ok {l : List Int} (h : ¬ l.length < 41) (hx : headOk l) : lenN l = 41 + 37 * getN l 8 1 + 32 ∧ lenE l = 0 := ⟨by rw [lenN, if_neg h, if_neg (fun hh => hh hx)], by rw [lenE, if_neg h, if_neg (fun hh => hh hx)]⟩
theorem get1 {l : List Int} {i : Nat} {y : Int} (h : l[i]? = some y) : getN l i 1 = y := by
 have e : (l.drop i).take 1 = [y] := by
  have : (l.drop i)[0]? = some y := by rw [List.getElem?_drop]; exact h
  cases hd : l.drop i with
  | nil => rw [hd] at this; cases this
  | cons a t => rw [hd] at this; cases this; rfl
 unfold getN
 rw [e]
 simp [be]
theorem cut_hi4 (b0 o n c : Nat) (h : 4 ≤ c) (w : World) : (Instr.sliceAt 28 (.slice (some ⟨b0, o, none⟩) n c) none (some (.int .i64 4)) none).run Tryd.prog w = .ok (.slice (some ⟨b0, o, none⟩) 4 c) w :=
 cut_hi (size := 1) Tryd.underlying28 (fun w => rfl) _ n c 4 rfl h w
theorem jsmnm56 : (Tryd.f56.name == "runtime.NumGoroutine") = false := by decide
theorem jsmbd56 : Tryd.f56.body.isNone = false := rfl
theorem jsmfld45_0 (g o : Nat) (w : World) : (Instr.fieldAt 45 (.pointer (some ⟨g, o, none⟩)) 0).run Tryd.prog w = .ok (.pointer (some ⟨g, o + 0, none⟩)) w := by kernel_rfl
theorem jsmag3 (w : World) : (isAgg 3).run Tryd.prog w = .ok false w := rfl
theorem jsmfld45_1 (g o : Nat) (w : World) : (Instr.fieldAt 45 (.pointer (some ⟨g, o, none⟩)) 1).run Tryd.prog w = .ok (.pointer (some ⟨g, o + 1, none⟩)) w := by kernel_rfl
theorem jsmfld45_2 (g o : Nat) (w : World) : (Instr.fieldAt 45 (.pointer (some ⟨g, o, none⟩)) 2).run Tryd.prog w = .ok (.pointer (some ⟨g, o + 2, none⟩)) w := by kernel_rfl
theorem jsmfld45_3 (g o : Nat) (w : World) : (Instr.fieldAt 45 (.pointer (some ⟨g, o, none⟩)) 3).run Tryd.prog w = .ok (.pointer (some ⟨g, o + 3, none⟩)) w := by kernel_rfl
theorem jsmag28 (w : World) : (isAgg 28).run Tryd.prog w = .ok false w := rfl
theorem jsmfld27_0 (g o : Nat) (w : World) : (Instr.fieldAt 27 (.pointer (some ⟨g, o, none⟩)) 0).run Tryd.prog w = .ok (.pointer (some ⟨g, o + 0, none⟩)) w := by kernel_rfl
theorem jsmfld27_1 (g o : Nat) (w : World) : (Instr.fieldAt 27 (.pointer (some ⟨g, o, none⟩)) 1).run Tryd.prog w = .ok (.pointer (some ⟨g, o + 1, none⟩)) w := by kernel_rfl
theorem jsmfld27_2 (g o : Nat) (w : World) : (Instr.fieldAt 27 (.pointer (some ⟨g, o, none⟩)) 2).run Tryd.prog w = .ok (.pointer (some ⟨g, o + 2, none⟩)) w := by kernel_rfl
theorem bequal (A1 A2 : Option Addr) (n1 c1 n2 c2 : Nat) (l1 l2 : List Int) (w : World) (h1 : Byt w w.heap.size A1 n1 l1) (h2 : Byt w w.heap.size A2 n2 l2) :
  Calls Tryd.prog 56 #[.slice A1 n1 c1, .slice A2 n2 c2] w fun e w' => e = .returned (.bool (decide (l1 = l2))) ∧ Below w.heap.size w w' := by
 refine begin_ (vs := [.slice A1 n1 c1, .slice A2 n2 c2]) Tryd.func56 rfl rfl rfl ?_ (Pm.start w)
 refine TC.seq_ (TC.region ?_)
 refine TL.val rfl rfl rfl (gives_assign rfl rfl) ?_
 refine TL.end_ (TX.then_ (TC.seq_ (TC.region ?_)))
 refine TL.val rfl rfl rfl (gives_move rfl rfl) ?_
 refine TL.val rfl rfl rfl (gives_strB (l := l1) rfl rfl Tryd.underlying28 Tryd.underlying5 Tryd.underlying9 (fun w1 hw => ⟨_, h1.below hw.bel⟩)) ?_
 refine TL.val rfl rfl rfl (gives_move rfl rfl) ?_
 refine TL.val rfl rfl rfl (gives_strB (l := l2) rfl rfl Tryd.underlying28 Tryd.underlying5 Tryd.underlying9 (fun w1 hw => ⟨_, h2.below hw.bel⟩)) ?_
 refine TL.val rfl rfl rfl (gives_bin2 (v := .bool (decide (l1 = l2))) rfl rfl rfl (fun w => bin_streq h1.2 h2.2 w)) ?_
 refine TL.val rfl rfl rfl (gives_assign rfl rfl) ?_
 refine TL.end_ (TX.then_ (TC.ret_ ?_))
 exact ret_tmp Tryd.results56 rfl (fun w1 hw => ⟨rfl, hw.bel⟩)
theorem wequal (A1 A2 : Option Addr) (n1 c1 n2 c2 : Nat) (l1 l2 : List Int) (w : World) (h1 : Byt w w.heap.size A1 n1 l1) (h2 : Byt w w.heap.size A2 n2 l2) :
  Calls Tryd.prog 28 #[.slice A1 n1 c1, .slice A2 n2 c2] w fun e w' => e = .returned (.bool (decide (l1 = l2))) ∧ Below w.heap.size w w' := by
 refine begin_ (vs := [.slice A1 n1 c1, .slice A2 n2 c2]) Tryd.func28 rfl rfl rfl ?_ (Pm.start w)
 refine TC.seq_ (TC.region ?_)
 refine TL.val rfl rfl rfl (gives_assign rfl rfl) ?_
 refine TL.end_ (TX.then_ (TC.seq_ (TC.region ?_)))
 refine TL.val rfl rfl rfl (gives_move rfl rfl) ?_
 refine TL.val rfl rfl rfl (gives_move rfl rfl) ?_
 refine TL.pcall1 (r := .bool (decide (l1 = l2))) rfl rfl rfl rfl rfl Tryd.func56 jsmnm56 jsmbd56 (fun w1 hw => bequal A1 A2 n1 c1 n2 c2 l1 l2 w1 ((h1.below hw.bel).more hw.bel.size) ((h2.below hw.bel).more hw.bel.size)) ?_
 refine TL.val rfl rfl rfl (gives_assign rfl rfl) ?_
 refine TL.end_ (TX.then_ (TC.ret_ ?_))
 exact ret_tmp Tryd.results28 rfl (fun w1 hw => ⟨rfl, hw.bel⟩)
def emptyC (v run n : Int) (m : Nat) : Bool := decide (v = 0 ∧ run = 0 ∧ n = 0 ∧ m = 0)
theorem empty_any (v run n : Int) (A : Option Addr) (m c : Nat) (w : World) :
  Calls Tryd.prog 68 #[.agg #[.int .i64 v, .int .i64 run, .int .i64 n, .slice A m c]] w fun e w' => e = .returned (.bool (emptyC v run n m)) ∧ Below w.heap.size w w' := by
 refine begin_ (vs := [.agg #[.int .i64 v, .int .i64 run, .int .i64 n, .slice A m c]]) Tryd.func68 rfl rfl rfl ?_ (Pm.start w)
 refine TC.seq_ (TC.region ?_)
 refine TL.pnew rfl rfl rfl (exec_box (cs := [.int .i64 v, .int .i64 run, .int .i64 n, .slice A m c]) rfl rfl rfl) (fun g1 => ?_)
 refine TL.val rfl rfl rfl (gives_assign rfl rfl) ?_
 refine TL.end_ (TX.then_ (TC.seq_ (TC.region ?_)))
 refine TL.val rfl rfl rfl (gives_field (v := .pointer (some ⟨g1, 0, none⟩)) rfl rfl (fun w => jsmfld45_0 _ _ w)) ?_
 refine TL.val rfl rfl rfl (pm_load (k := 0) (i := 0) rfl rfl jsmag3 rfl rfl) ?_
 refine TL.vsplit rfl rfl rfl (gives_bin rfl rfl rfl (fun w => bin_eql w)) (fun h5 => ?_) (fun h5 => ?_)
 ·have q5 := of_decide_eq_true h5
  refine TL.val rfl rfl rfl (gives_move rfl rfl) ?_
  refine TL.on rfl rfl rfl ?_
  refine TL.val rfl rfl rfl (gives_field (v := .pointer (some ⟨g1, 1, none⟩)) rfl rfl (fun w => jsmfld45_1 _ _ w)) ?_
  refine TL.on rfl rfl rfl ?_
  refine TL.val rfl rfl rfl (pm_load (k := 0) (i := 1) rfl rfl jsmag3 rfl rfl) ?_
  refine TL.on rfl rfl rfl ?_
  refine TL.vsplit rfl rfl rfl (gives_bin rfl rfl rfl (fun w => bin_eql w)) (fun h9 => ?_) (fun h9 => ?_)
  ·have q9 := of_decide_eq_true h9
   refine TL.val rfl rfl rfl (gives_pick rfl rfl rfl) ?_
   refine TL.val rfl rfl rfl (gives_move rfl rfl) ?_
   refine TL.on rfl rfl rfl ?_
   refine TL.val rfl rfl rfl (gives_field (v := .pointer (some ⟨g1, 2, none⟩)) rfl rfl (fun w => jsmfld45_2 _ _ w)) ?_
   refine TL.on rfl rfl rfl ?_
   refine TL.val rfl rfl rfl (pm_load (k := 0) (i := 2) rfl rfl jsmag3 rfl rfl) ?_
   refine TL.on rfl rfl rfl ?_
   refine TL.vsplit rfl rfl rfl (gives_bin rfl rfl rfl (fun w => bin_eql w)) (fun h14 => ?_) (fun h14 => ?_)
   ·have q14 := of_decide_eq_true h14
    refine TL.val rfl rfl rfl (gives_pick rfl rfl rfl) ?_
    refine TL.val rfl rfl rfl (gives_move rfl rfl) ?_
    refine TL.on rfl rfl rfl ?_
    refine TL.val rfl rfl rfl (gives_field (v := .pointer (some ⟨g1, 3, none⟩)) rfl rfl (fun w => jsmfld45_3 _ _ w)) ?_
    refine TL.on rfl rfl rfl ?_
    refine TL.val rfl rfl rfl (pm_load (k := 0) (i := 3) rfl rfl jsmag28 rfl rfl) ?_
    refine TL.on rfl rfl rfl ?_
    refine TL.val rfl rfl rfl (gives_len rfl Tryd.underlying28 rfl) ?_
    refine TL.on rfl rfl rfl ?_
    refine TL.vsplit rfl rfl rfl (gives_bin rfl rfl rfl (fun w => bin_eql w)) (fun h20 => ?_) (fun h20 => ?_)
    ·have q20 := of_decide_eq_true h20
     refine TL.val rfl rfl rfl (gives_pick rfl rfl rfl) ?_
     refine TL.val rfl rfl rfl (gives_assign rfl rfl) ?_
     refine TL.end_ (TX.then_ (TC.ret_ ?_))
     exact ret_tmp Tryd.results68 rfl (fun w1 hw => ⟨by rw [emptyC]; congr; exact (decide_eq_true (by omega)).symm, hw.bel⟩)
    ·have q20 := of_decide_eq_false h20
     refine TL.val rfl rfl rfl (gives_pick rfl rfl rfl) ?_
     refine TL.val rfl rfl rfl (gives_assign rfl rfl) ?_
     refine TL.end_ (TX.then_ (TC.ret_ ?_))
     exact ret_tmp Tryd.results68 rfl (fun w1 hw => ⟨by rw [emptyC]; congr; exact (decide_eq_false (by omega)).symm, hw.bel⟩)
   ·have q14 := of_decide_eq_false h14
    iterate 8 (first | refine TL.off rfl rfl rfl rfl rfl rfl ?_ | refine TL.val rfl rfl rfl (gives_pick rfl rfl rfl) ?_ | refine TL.val rfl rfl rfl (gives_move rfl rfl) ?_ | refine TL.val rfl rfl rfl (gives_assign rfl rfl) ?_)
    refine TL.end_ (TX.then_ (TC.ret_ ?_))
    exact ret_tmp Tryd.results68 rfl (fun w1 hw => ⟨by rw [emptyC]; congr; exact (decide_eq_false (by omega)).symm, hw.bel⟩)
  ·have q9 := of_decide_eq_false h9
   iterate 13 (first | refine TL.off rfl rfl rfl rfl rfl rfl ?_ | refine TL.val rfl rfl rfl (gives_pick rfl rfl rfl) ?_ | refine TL.val rfl rfl rfl (gives_move rfl rfl) ?_ | refine TL.val rfl rfl rfl (gives_assign rfl rfl) ?_)
   refine TL.end_ (TX.then_ (TC.ret_ ?_))
   exact ret_tmp Tryd.results68 rfl (fun w1 hw => ⟨by rw [emptyC]; congr; exact (decide_eq_false (by omega)).symm, hw.bel⟩)
 ·have q5 := of_decide_eq_false h5
  iterate 17 (first | refine TL.off rfl rfl rfl rfl rfl rfl ?_ | refine TL.val rfl rfl rfl (gives_move rfl rfl) ?_ | refine TL.val rfl rfl rfl (gives_pick rfl rfl rfl) ?_ | refine TL.val rfl rfl rfl (gives_assign rfl rfl) ?_)
  refine TL.end_ (TX.then_ (TC.ret_ ?_))
  exact ret_tmp Tryd.results68 rfl (fun w1 hw => ⟨by rw [emptyC]; congr; exact (decide_eq_false (by omega)).symm, hw.bel⟩)
theorem zero_any (v run n : Int) (A : Option Addr) (m c : Nat) (w : World) :
  Calls Tryd.prog 55 #[.agg #[.int .i64 v, .int .i64 run, .int .i64 n, .slice A m c]] w fun e w' => e = .returned (.bool (emptyC v run n m)) ∧ Below w.heap.size w w' := by
 refine begin_ (vs := [.agg #[.int .i64 v, .int .i64 run, .int .i64 n, .slice A m c]]) Tryd.func55 rfl rfl rfl ?_ (Pm.start w)
 refine TC.seq_ (TC.region ?_)
 refine TL.pnew rfl rfl rfl (exec_box (cs := [.int .i64 v, .int .i64 run, .int .i64 n, .slice A m c]) rfl rfl rfl) (fun g1 => ?_)
 refine TL.val rfl rfl rfl (gives_assign rfl rfl) ?_
 refine TL.end_ (TX.then_ (TC.seq_ (TC.region ?_)))
 refine TL.val rfl rfl rfl (gives_field (v := .pointer (some ⟨g1, 0, none⟩)) rfl rfl (fun w => jsmfld45_0 _ _ w)) ?_
 refine TL.val rfl rfl rfl (pm_load (k := 0) (i := 0) rfl rfl jsmag3 rfl rfl) ?_
 refine TL.vsplit rfl rfl rfl (gives_bin rfl rfl rfl (fun w => bin_eql w)) (fun h5 => ?_) (fun h5 => ?_)
 ·have q5 := of_decide_eq_true h5
  refine TL.val rfl rfl rfl (gives_move rfl rfl) ?_
  refine TL.on rfl rfl rfl ?_
  refine TL.val rfl rfl rfl (gives_field (v := .pointer (some ⟨g1, 1, none⟩)) rfl rfl (fun w => jsmfld45_1 _ _ w)) ?_
  refine TL.on rfl rfl rfl ?_
  refine TL.val rfl rfl rfl (pm_load (k := 0) (i := 1) rfl rfl jsmag3 rfl rfl) ?_
  refine TL.on rfl rfl rfl ?_
  refine TL.vsplit rfl rfl rfl (gives_bin rfl rfl rfl (fun w => bin_eql w)) (fun h9 => ?_) (fun h9 => ?_)
  ·have q9 := of_decide_eq_true h9
   refine TL.val rfl rfl rfl (gives_pick rfl rfl rfl) ?_
   refine TL.val rfl rfl rfl (gives_move rfl rfl) ?_
   refine TL.on rfl rfl rfl ?_
   refine TL.val rfl rfl rfl (gives_field (v := .pointer (some ⟨g1, 2, none⟩)) rfl rfl (fun w => jsmfld45_2 _ _ w)) ?_
   refine TL.on rfl rfl rfl ?_
   refine TL.val rfl rfl rfl (pm_load (k := 0) (i := 2) rfl rfl jsmag3 rfl rfl) ?_
   refine TL.on rfl rfl rfl ?_
   refine TL.vsplit rfl rfl rfl (gives_bin rfl rfl rfl (fun w => bin_eql w)) (fun h14 => ?_) (fun h14 => ?_)
   ·have q14 := of_decide_eq_true h14
    refine TL.val rfl rfl rfl (gives_pick rfl rfl rfl) ?_
    refine TL.val rfl rfl rfl (gives_move rfl rfl) ?_
    refine TL.on rfl rfl rfl ?_
    refine TL.val rfl rfl rfl (gives_field (v := .pointer (some ⟨g1, 3, none⟩)) rfl rfl (fun w => jsmfld45_3 _ _ w)) ?_
    refine TL.on rfl rfl rfl ?_
    refine TL.val rfl rfl rfl (pm_load (k := 0) (i := 3) rfl rfl jsmag28 rfl rfl) ?_
    refine TL.on rfl rfl rfl ?_
    refine TL.val rfl rfl rfl (gives_len rfl Tryd.underlying28 rfl) ?_
    refine TL.on rfl rfl rfl ?_
    refine TL.vsplit rfl rfl rfl (gives_bin rfl rfl rfl (fun w => bin_eql w)) (fun h20 => ?_) (fun h20 => ?_)
    ·have q20 := of_decide_eq_true h20
     refine TL.val rfl rfl rfl (gives_pick rfl rfl rfl) ?_
     refine TL.val rfl rfl rfl (gives_assign rfl rfl) ?_
     refine TL.end_ (TX.then_ (TC.ret_ ?_))
     exact ret_tmp Tryd.results55 rfl (fun w1 hw => ⟨by rw [emptyC]; congr; exact (decide_eq_true (by omega)).symm, hw.bel⟩)
    ·have q20 := of_decide_eq_false h20
     refine TL.val rfl rfl rfl (gives_pick rfl rfl rfl) ?_
     refine TL.val rfl rfl rfl (gives_assign rfl rfl) ?_
     refine TL.end_ (TX.then_ (TC.ret_ ?_))
     exact ret_tmp Tryd.results55 rfl (fun w1 hw => ⟨by rw [emptyC]; congr; exact (decide_eq_false (by omega)).symm, hw.bel⟩)
   ·have q14 := of_decide_eq_false h14
    iterate 8 (first | refine TL.off rfl rfl rfl rfl rfl rfl ?_ | refine TL.val rfl rfl rfl (gives_pick rfl rfl rfl) ?_ | refine TL.val rfl rfl rfl (gives_move rfl rfl) ?_ | refine TL.val rfl rfl rfl (gives_assign rfl rfl) ?_)
    refine TL.end_ (TX.then_ (TC.ret_ ?_))
    exact ret_tmp Tryd.results55 rfl (fun w1 hw => ⟨by rw [emptyC]; congr; exact (decide_eq_false (by omega)).symm, hw.bel⟩)
  ·have q9 := of_decide_eq_false h9
   iterate 13 (first | refine TL.off rfl rfl rfl rfl rfl rfl ?_ | refine TL.val rfl rfl rfl (gives_pick rfl rfl rfl) ?_ | refine TL.val rfl rfl rfl (gives_move rfl rfl) ?_ | refine TL.val rfl rfl rfl (gives_assign rfl rfl) ?_)
   refine TL.end_ (TX.then_ (TC.ret_ ?_))
   exact ret_tmp Tryd.results55 rfl (fun w1 hw => ⟨by rw [emptyC]; congr; exact (decide_eq_false (by omega)).symm, hw.bel⟩)
 ·have q5 := of_decide_eq_false h5
  iterate 17 (first | refine TL.off rfl rfl rfl rfl rfl rfl ?_ | refine TL.val rfl rfl rfl (gives_move rfl rfl) ?_ | refine TL.val rfl rfl rfl (gives_pick rfl rfl rfl) ?_ | refine TL.val rfl rfl rfl (gives_assign rfl rfl) ?_)
  refine TL.end_ (TX.then_ (TC.ret_ ?_))
  exact ret_tmp Tryd.results55 rfl (fun w1 hw => ⟨by rw [emptyC]; congr; exact (decide_eq_false (by omega)).symm, hw.bel⟩)
def followsC (v run n i : Int) (r : Rs) : Bool := decide (r.v = v ∧ r.run = run ∧ r.num = n + i)
theorem follows_any (v run n i : Int) (A : Option Addr) (m c : Nat) (r : Rs) (w : World) (h : -9223372036854775808 ≤ n + i ∧ n + i ≤ 9223372036854775807) :
  Calls Tryd.prog 62 #[.agg #[.int .i64 v, .int .i64 run, .int .i64 n, .slice A m c], .int .i64 i, .agg r.cells.toArray] w fun e w' => e = .returned (.bool (followsC v run n i r)) ∧ Below w.heap.size w w' := by
 refine begin_ (vs := [.agg #[.int .i64 v, .int .i64 run, .int .i64 n, .slice A m c], .int .i64 i, .agg r.cells.toArray]) Tryd.func62 rfl rfl rfl ?_ (Pm.start w)
 refine TC.seq_ (TC.region ?_)
 refine TL.pnew rfl rfl rfl (exec_box (cs := [.int .i64 v, .int .i64 run, .int .i64 n, .slice A m c]) rfl rfl rfl) (fun g3 => ?_)
 refine TL.pnew rfl rfl rfl (exec_box (cs := r.cells) rfl rfl rfl) (fun g5 => ?_)
 refine TL.val rfl rfl rfl (gives_assign rfl rfl) ?_
 refine TL.end_ (TX.then_ (TC.seq_ (TC.region ?_)))
 refine TL.val rfl rfl rfl (gives_field (v := .pointer (some ⟨g5, 0, none⟩)) rfl rfl (fun w => jsmfld27_0 _ _ w)) ?_
 refine TL.val rfl rfl rfl (pm_load (k := 0) (i := 0) rfl rfl jsmag3 rfl rfl) ?_
 refine TL.val rfl rfl rfl (gives_field (v := .pointer (some ⟨g3, 0, none⟩)) rfl rfl (fun w => jsmfld45_0 _ _ w)) ?_
 refine TL.val rfl rfl rfl (pm_load (k := 1) (i := 0) rfl rfl jsmag3 rfl rfl) ?_
 refine TL.vsplit rfl rfl rfl (gives_bin rfl rfl rfl (fun w => bin_eql w)) (fun h11 => ?_) (fun h11 => ?_)
 ·have q11 := of_decide_eq_true h11
  refine TL.val rfl rfl rfl (gives_move rfl rfl) ?_
  refine TL.on rfl rfl rfl ?_
  refine TL.val rfl rfl rfl (gives_field (v := .pointer (some ⟨g5, 1, none⟩)) rfl rfl (fun w => jsmfld27_1 _ _ w)) ?_
  refine TL.on rfl rfl rfl ?_
  refine TL.val rfl rfl rfl (pm_load (k := 0) (i := 1) rfl rfl jsmag3 rfl rfl) ?_
  refine TL.on rfl rfl rfl ?_
  refine TL.val rfl rfl rfl (gives_field (v := .pointer (some ⟨g3, 1, none⟩)) rfl rfl (fun w => jsmfld45_1 _ _ w)) ?_
  refine TL.on rfl rfl rfl ?_
  refine TL.val rfl rfl rfl (pm_load (k := 1) (i := 1) rfl rfl jsmag3 rfl rfl) ?_
  refine TL.on rfl rfl rfl ?_
  refine TL.vsplit rfl rfl rfl (gives_bin rfl rfl rfl (fun w => bin_eql w)) (fun h17 => ?_) (fun h17 => ?_)
  ·have q17 := of_decide_eq_true h17
   refine TL.val rfl rfl rfl (gives_pick rfl rfl rfl) ?_
   refine TL.val rfl rfl rfl (gives_move rfl rfl) ?_
   refine TL.on rfl rfl rfl ?_
   refine TL.val rfl rfl rfl (gives_field (v := .pointer (some ⟨g5, 2, none⟩)) rfl rfl (fun w => jsmfld27_2 _ _ w)) ?_
   refine TL.on rfl rfl rfl ?_
   refine TL.val rfl rfl rfl (pm_load (k := 0) (i := 2) rfl rfl jsmag3 rfl rfl) ?_
   refine TL.on rfl rfl rfl ?_
   refine TL.val rfl rfl rfl (gives_field (v := .pointer (some ⟨g3, 2, none⟩)) rfl rfl (fun w => jsmfld45_2 _ _ w)) ?_
   refine TL.on rfl rfl rfl ?_
   refine TL.val rfl rfl rfl (pm_load (k := 1) (i := 2) rfl rfl jsmag3 rfl rfl) ?_
   refine TL.on rfl rfl rfl ?_
   refine TL.val rfl rfl rfl (gives_move rfl rfl) ?_
   refine TL.on rfl rfl rfl ?_
   refine TL.val rfl rfl rfl (gives_bin rfl rfl rfl (fun w => bin_add_ (r := n + i) (by simp only [IntKind.wrap_i64]; omega) w)) ?_
   refine TL.on rfl rfl rfl ?_
   refine TL.vsplit rfl rfl rfl (gives_bin rfl rfl rfl (fun w => bin_eql w)) (fun h26 => ?_) (fun h26 => ?_)
   ·have q26 := of_decide_eq_true h26
    refine TL.val rfl rfl rfl (gives_pick rfl rfl rfl) ?_
    refine TL.val rfl rfl rfl (gives_assign rfl rfl) ?_
    refine TL.end_ (TX.then_ (TC.ret_ ?_))
    exact ret_tmp Tryd.results62 rfl (fun w1 hw => ⟨by rw [followsC]; congr; exact (decide_eq_true (by omega)).symm, hw.bel⟩)
   ·have q26 := of_decide_eq_false h26
    refine TL.val rfl rfl rfl (gives_pick rfl rfl rfl) ?_
    refine TL.val rfl rfl rfl (gives_assign rfl rfl) ?_
    refine TL.end_ (TX.then_ (TC.ret_ ?_))
    exact ret_tmp Tryd.results62 rfl (fun w1 hw => ⟨by rw [followsC]; congr; exact (decide_eq_false (by omega)).symm, hw.bel⟩)
  ·have q17 := of_decide_eq_false h17
   iterate 11 (first | refine TL.off rfl rfl rfl rfl rfl rfl ?_ | refine TL.val rfl rfl rfl (gives_pick rfl rfl rfl) ?_ | refine TL.val rfl rfl rfl (gives_move rfl rfl) ?_ | refine TL.val rfl rfl rfl (gives_assign rfl rfl) ?_)
   refine TL.end_ (TX.then_ (TC.ret_ ?_))
   exact ret_tmp Tryd.results62 rfl (fun w1 hw => ⟨by rw [followsC]; congr; exact (decide_eq_false (by omega)).symm, hw.bel⟩)
 ·have q11 := of_decide_eq_false h11
  iterate 17 (first | refine TL.off rfl rfl rfl rfl rfl rfl ?_ | refine TL.val rfl rfl rfl (gives_move rfl rfl) ?_ | refine TL.val rfl rfl rfl (gives_pick rfl rfl rfl) ?_ | refine TL.val rfl rfl rfl (gives_assign rfl rfl) ?_)
  refine TL.end_ (TX.then_ (TC.ret_ ?_))
  exact ret_tmp Tryd.results62 rfl (fun w1 hw => ⟨by rw [followsC]; congr; exact (decide_eq_false (by omega)).symm, hw.bel⟩)
theorem length_any (A : Option Addr) (n c : Nat) (l : List Int) (w : World) (hb : Byt w w.heap.size A n l) (hnc : n ≤ c) :
  Calls Tryd.prog 24 #[.slice A n c] w fun e w' => e = .returned (.tuple #[.int .i64 (lenN l), .int .i64 (lenE l)]) ∧ Below w.heap.size w w' := by
 have hln := hb.len
 refine begin_ (vs := [.slice A n c]) Tryd.func24 rfl rfl rfl ?_ (Pm.start w)
 refine TC.seq_ (TC.region ?_)
 refine TL.val rfl rfl rfl (gives_assign rfl rfl) ?_
 refine TL.val rfl rfl rfl (gives_assign rfl rfl) ?_
 refine TL.end_ (TX.then_ (TC.seq_ (TC.seq_ (TC.region ?_))))
 refine TL.val rfl rfl rfl (gives_move rfl rfl) ?_
 refine TL.val rfl rfl rfl (gives_len rfl Tryd.underlying28 rfl) ?_
 refine TL.vsplit rfl rfl rfl (gives_bin rfl rfl rfl (fun w => bin_lss w)) (fun h7 => ?_) (fun h7 => ?_)
 ·have q7 := of_decide_eq_true h7
  refine TL.end_ (TX.then_ (TC.condT rfl (TC.seq_ (TC.region ?_))))
  refine TL.val rfl rfl rfl (gives_assign rfl rfl) ?_
  refine TL.val rfl rfl rfl (gives_assign rfl rfl) ?_
  refine TL.end_ (TX.then_ (TC.ret_ (TX.then_ret ?_)))
  exact ret_pair (v1 := .int .i64 0) (v2 := .int .i64 3) Tryd.results24 rfl rfl (fun w1 hw => ⟨by rw [(len_short (by omega)).1, (len_short (by omega)).2], hw.bel⟩)
 ·have q7 := of_decide_eq_false h7
  obtain ⟨b0, o, y, rfl, hbB, hl, hy0, hy1, hy⟩ := hb.at' (k := 8) (by omega)
  have hg8 : getN l 8 1 = y := get1 hl
  have hln := hb.len
  refine TL.end_ (TX.then_ (TC.condF rfl (TC.skip_ (TX.then_ (TC.seq_ (TC.region ?_))))))
  refine TL.val rfl rfl rfl (gives_move rfl rfl) ?_
  refine TL.val rfl rfl rfl (gives_at (v := .pointer (some ⟨b0, o + 8, none⟩)) rfl rfl rfl (fun w => at_u8 b0 o n c 8 (by omega) w)) ?_
  refine TL.val rfl rfl rfl (gives_load (v := .int .u8 y) rfl rfl (fun w => rfl) (fun w1 hw => (hw.bel.cell (p := ⟨b0, o + 8, none⟩) hbB).trans hy)) ?_
  refine TL.val rfl rfl rfl (gives_conv rfl rfl (fun w => conv_fit (k := .u8) Tryd.underlying3 Tryd.underlying5 (by simp only [IntKind.wrap_i64]; omega) w)) ?_
  refine TL.val rfl rfl rfl (gives_assign rfl rfl) ?_
  refine TL.end_ (TX.then_ (TC.seq_ (TC.seq_ (TC.region ?_))))
  refine TL.val rfl rfl rfl (gives_move rfl rfl) ?_
  refine TL.val rfl rfl rfl (gives_sliceH (v := .slice (some ⟨b0, o, none⟩) 4 c) rfl rfl rfl (fun w => cut_hi4 b0 o n c (by omega) w)) ?_
  refine TL.val rfl rfl rfl (gives_strB (l := (l.take 4)) rfl rfl Tryd.underlying28 Tryd.underlying5 Tryd.underlying9 (fun w1 hw => ⟨_, (hb.below hw.bel).head (by omega)⟩)) ?_
  refine TL.vsplit rfl rfl rfl (gives_bin2 (v := .bool (!decide (l.take 4 = rsj))) (vy := sv rsj) rfl rfl rfl (fun w => bin_strne (hb.2.take 4) rsj_bs w)) (fun h15 => ?_) (fun h15 => ?_)
  ·have hl15 : ¬ l.take 4 = rsj := by simpa using h15
   have hx : ¬ headOk l := fun hh => hl15 hh.1
   iterate 4 (first | refine TL.off rfl rfl rfl rfl rfl rfl ?_ | refine TL.val rfl rfl rfl (gives_move rfl rfl) ?_ | refine TL.val rfl rfl rfl (gives_pick rfl rfl rfl) ?_)
   refine TL.end_ (TX.then_ (TC.condT rfl (TC.seq_ (TC.region ?_))))
   refine TL.val rfl rfl rfl (gives_assign rfl rfl) ?_
   refine TL.val rfl rfl rfl (gives_assign rfl rfl) ?_
   refine TL.end_ (TX.then_ (TC.ret_ (TX.then_ret ?_)))
   exact ret_pair (v1 := .int .i64 0) (v2 := .int .i64 2) Tryd.results24 rfl rfl (fun w1 hw => ⟨by rw [(len_form (by omega) hx).1, (len_form (by omega) hx).2], hw.bel⟩)
  ·have hl15 : l.take 4 = rsj := by simpa using h15
   iterate 4 (first | refine TL.on rfl rfl rfl ?_ | refine TL.val rfl rfl rfl (gives_move rfl rfl) ?_)
   refine TL.vsplit rfl rfl rfl (gives_bin rfl rfl rfl (fun w => bin_gtr w)) (fun h18 => ?_) (fun h18 => ?_)
   ·have q18 := of_decide_eq_true h18
    have hx : ¬ headOk l := fun hh => by have := hh.2; rw [hg8] at this; omega
    refine TL.val rfl rfl rfl (gives_pick rfl rfl rfl) ?_
    refine TL.end_ (TX.then_ (TC.condT rfl (TC.seq_ (TC.region ?_))))
    refine TL.val rfl rfl rfl (gives_assign rfl rfl) ?_
    refine TL.val rfl rfl rfl (gives_assign rfl rfl) ?_
    refine TL.end_ (TX.then_ (TC.ret_ (TX.then_ret ?_)))
    exact ret_pair (v1 := .int .i64 0) (v2 := .int .i64 2) Tryd.results24 rfl rfl (fun w1 hw => ⟨by rw [(len_form (by omega) hx).1, (len_form (by omega) hx).2], hw.bel⟩)
   ·have q18 := of_decide_eq_false h18
    have hx : headOk l := ⟨hl15, by rw [hg8]; omega⟩
    refine TL.val rfl rfl rfl (gives_pick rfl rfl rfl) ?_
    refine TL.end_ (TX.then_ (TC.condF rfl (TC.skip_ (TX.then_ (TC.seq_ (TC.region ?_))))))
    refine TL.val rfl rfl rfl (gives_move rfl rfl) ?_
    refine TL.val rfl rfl rfl (gives_bin rfl rfl rfl (fun w => bin_mul_ (r := 37 * y) (by simp only [IntKind.wrap_i64]; omega) w)) ?_
    refine TL.val rfl rfl rfl (gives_bin rfl rfl rfl (fun w => bin_add_ (r := 41 + (37 * y)) (by simp only [IntKind.wrap_i64]; omega) w)) ?_
    refine TL.val rfl rfl rfl (gives_bin rfl rfl rfl (fun w => bin_add_ (r := (41 + (37 * y)) + 32) (by simp only [IntKind.wrap_i64]; omega) w)) ?_
    refine TL.val rfl rfl rfl (gives_assign rfl rfl) ?_
    refine TL.val rfl rfl rfl (gives_assign rfl rfl) ?_
    refine TL.end_ (TX.then_ (TC.ret_ ?_))
    exact ret_pair (v1 := .int .i64 ((41 + (37 * y)) + 32)) (v2 := .int .i64 0) Tryd.results24 rfl rfl (fun w1 hw => ⟨by rw [(len_ok (by omega) hx).1, (len_ok (by omega) hx).2, hg8], hw.bel⟩)
theorem rlength_any (A : Option Addr) (n c : Nat) (l : List Int) (w : World) (hb : Byt w w.heap.size A n l) (hnc : n ≤ c) :
  Calls Tryd.prog 25 #[.slice A n c] w fun e w' => e = .returned (.tuple #[.int .i64 (lenN l), .int .i64 (lenE l)]) ∧ Below w.heap.size w w' := by
 have hln := hb.len
 refine begin_ (vs := [.slice A n c]) Tryd.func25 rfl rfl rfl ?_ (Pm.start w)
 refine TC.seq_ (TC.region ?_)
 refine TL.val rfl rfl rfl (gives_assign rfl rfl) ?_
 refine TL.val rfl rfl rfl (gives_assign rfl rfl) ?_
 refine TL.end_ (TX.then_ (TC.seq_ (TC.seq_ (TC.region ?_))))
 refine TL.val rfl rfl rfl (gives_move rfl rfl) ?_
 refine TL.val rfl rfl rfl (gives_len rfl Tryd.underlying28 rfl) ?_
 refine TL.vsplit rfl rfl rfl (gives_bin rfl rfl rfl (fun w => bin_lss w)) (fun h6 => ?_) (fun h6 => ?_)
 ·have q6 := of_decide_eq_true h6
  refine TL.end_ (TX.then_ (TC.condT rfl (TC.seq_ (TC.region ?_))))
  refine TL.val rfl rfl rfl (gives_assign rfl rfl) ?_
  refine TL.val rfl rfl rfl (gives_assign rfl rfl) ?_
  refine TL.end_ (TX.then_ (TC.ret_ (TX.then_ret ?_)))
  exact ret_pair (v1 := .int .i64 0) (v2 := .int .i64 3) Tryd.results25 rfl rfl (fun w1 hw => ⟨by rw [(len_short (by omega)).1, (len_short (by omega)).2], hw.bel⟩)
 ·have q6 := of_decide_eq_false h6
  obtain ⟨b0, o, y, rfl, hbB, hl, hy0, hy1, hy⟩ := hb.at' (k := 8) (by omega)
  have hg8 : getN l 8 1 = y := get1 hl
  have hln := hb.len
  refine TL.end_ (TX.then_ (TC.condF rfl (TC.skip_ (TX.then_ (TC.seq_ (TC.seq_ (TC.region ?_)))))))
  refine TL.val rfl rfl rfl (gives_move rfl rfl) ?_
  refine TL.val rfl rfl rfl (gives_sliceH (v := .slice (some ⟨b0, o, none⟩) 4 c) rfl rfl rfl (fun w => cut_hi4 b0 o n c (by omega) w)) ?_
  refine TL.val rfl rfl rfl (gives_strB (l := (l.take 4)) rfl rfl Tryd.underlying28 Tryd.underlying5 Tryd.underlying9 (fun w1 hw => ⟨_, (hb.below hw.bel).head (by omega)⟩)) ?_
  refine TL.vsplit rfl rfl rfl (gives_bin2 (v := .bool (!decide (l.take 4 = rsj))) (vy := sv rsj) rfl rfl rfl (fun w => bin_strne (hb.2.take 4) rsj_bs w)) (fun h10 => ?_) (fun h10 => ?_)
  ·have hl10 : ¬ l.take 4 = rsj := by simpa using h10
   have hx : ¬ headOk l := fun hh => hl10 hh.1
   iterate 7 (first | refine TL.off rfl rfl rfl rfl rfl rfl ?_ | refine TL.val rfl rfl rfl (gives_move rfl rfl) ?_ | refine TL.val rfl rfl rfl (gives_pick rfl rfl rfl) ?_)
   refine TL.end_ (TX.then_ (TC.condT rfl (TC.seq_ (TC.region ?_))))
   refine TL.val rfl rfl rfl (gives_assign rfl rfl) ?_
   refine TL.val rfl rfl rfl (gives_assign rfl rfl) ?_
   refine TL.end_ (TX.then_ (TC.ret_ (TX.then_ret ?_)))
   exact ret_pair (v1 := .int .i64 0) (v2 := .int .i64 2) Tryd.results25 rfl rfl (fun w1 hw => ⟨by rw [(len_form (by omega) hx).1, (len_form (by omega) hx).2], hw.bel⟩)
  ·have hl10 : l.take 4 = rsj := by simpa using h10
   iterate 4 (first | refine TL.on rfl rfl rfl ?_ | refine TL.val rfl rfl rfl (gives_move rfl rfl) ?_)
   refine TL.val rfl rfl rfl (gives_at (v := .pointer (some ⟨b0, o + 8, none⟩)) rfl rfl rfl (fun w => at_u8 b0 o n c 8 (by omega) w)) ?_
   refine TL.on rfl rfl rfl ?_
   refine TL.val rfl rfl rfl (gives_load (v := .int .u8 y) rfl rfl (fun w => rfl) (fun w1 hw => (hw.bel.cell (p := ⟨b0, o + 8, none⟩) hbB).trans hy)) ?_
   refine TL.on rfl rfl rfl ?_
   refine TL.val rfl rfl rfl (gives_conv rfl rfl (fun w => conv_fit (k := .u8) Tryd.underlying3 Tryd.underlying5 (by simp only [IntKind.wrap_i64]; omega) w)) ?_
   refine TL.on rfl rfl rfl ?_
   refine TL.vsplit rfl rfl rfl (gives_bin rfl rfl rfl (fun w => bin_gtr w)) (fun h16 => ?_) (fun h16 => ?_)
   ·have q16 := of_decide_eq_true h16
    have hx : ¬ headOk l := fun hh => by have := hh.2; rw [hg8] at this; omega
    refine TL.val rfl rfl rfl (gives_pick rfl rfl rfl) ?_
    refine TL.end_ (TX.then_ (TC.condT rfl (TC.seq_ (TC.region ?_))))
    refine TL.val rfl rfl rfl (gives_assign rfl rfl) ?_
    refine TL.val rfl rfl rfl (gives_assign rfl rfl) ?_
    refine TL.end_ (TX.then_ (TC.ret_ (TX.then_ret ?_)))
    exact ret_pair (v1 := .int .i64 0) (v2 := .int .i64 2) Tryd.results25 rfl rfl (fun w1 hw => ⟨by rw [(len_form (by omega) hx).1, (len_form (by omega) hx).2], hw.bel⟩)
   ·have q16 := of_decide_eq_false h16
    have hx : headOk l := ⟨hl10, by rw [hg8]; omega⟩
    refine TL.val rfl rfl rfl (gives_pick rfl rfl rfl) ?_
    refine TL.end_ (TX.then_ (TC.condF rfl (TC.skip_ (TX.then_ (TC.seq_ (TC.region ?_))))))
    refine TL.val rfl rfl rfl (gives_move rfl rfl) ?_
    refine TL.val rfl rfl rfl (gives_at (v := .pointer (some ⟨b0, o + 8, none⟩)) rfl rfl rfl (fun w => at_u8 b0 o n c 8 (by omega) w)) ?_
    refine TL.val rfl rfl rfl (gives_load (v := .int .u8 y) rfl rfl (fun w => rfl) (fun w1 hw => (hw.bel.cell (p := ⟨b0, o + 8, none⟩) hbB).trans hy)) ?_
    refine TL.val rfl rfl rfl (gives_conv rfl rfl (fun w => conv_fit (k := .u8) Tryd.underlying3 Tryd.underlying5 (by simp only [IntKind.wrap_i64]; omega) w)) ?_
    refine TL.val rfl rfl rfl (gives_bin rfl rfl rfl (fun w => bin_mul_ (r := y * 37) (by simp only [IntKind.wrap_i64]; omega) w)) ?_
    refine TL.val rfl rfl rfl (gives_bin rfl rfl rfl (fun w => bin_add_ (r := 41 + (y * 37)) (by simp only [IntKind.wrap_i64]; omega) w)) ?_
    refine TL.val rfl rfl rfl (gives_bin rfl rfl rfl (fun w => bin_add_ (r := (41 + (y * 37)) + 32) (by simp only [IntKind.wrap_i64]; omega) w)) ?_
    refine TL.val rfl rfl rfl (gives_assign rfl rfl) ?_
    refine TL.val rfl rfl rfl (gives_assign rfl rfl) ?_
    refine TL.end_ (TX.then_ (TC.ret_ ?_))
    exact ret_pair (v1 := .int .i64 ((41 + (y * 37)) + 32)) (v2 := .int .i64 0) Tryd.results25 rfl rfl (fun w1 hw => ⟨by rw [(len_ok (by omega) hx).1, (len_ok (by omega) hx).2, hg8, Int.mul_comm 37 y], hw.bel⟩)
end Go.Proofs.YtmeaeeehnkcblaaDoor

namespace Go.Proofs.YtmeaeeehnkcblaaDoor
open Go.RowKit
set_option maxRecDepth 20000
def eqB (a b : List Int) : Bool := decide (a = b)
theorem requal_len (A1 A2 : Option Addr) (n1 c1 n2 c2 : Nat) (w : World) (h : n1 ≠ n2) (hn1 : n1 ≤ 140737488355328) (hn2 : n2 ≤ 140737488355328) :
  Calls Tryd.prog 16 #[.slice A1 n1 c1, .slice A2 n2 c2] w fun e w' => e = .returned (.bool false) ∧ ∃ q, w' = w.drewN q := by
 have hb : ((n1 : Int) != n2) = true := by simp; omega
 clear h
 go_enter Tryd.func16, Tryd.ntmps16
 go_wp2
 go_ret
 exact ⟨rfl, 0, rfl⟩
theorem requal_same (A1 A2 : Option Addr) (n c1 c2 : Nat) (l1 l2 : List Int) (w : World) (B : Nat) (h1 : Byt w B A1 n l1) (h2 : Byt w B A2 n l2) (hn : n ≤ 140737488355328) :
  Calls Tryd.prog 16 #[.slice A1 n c1, .slice A2 n c2] w fun e w' => e = .returned (.bool (eqB l1 l2)) ∧ ∃ q, w' = w.drewN q := by
 have HL : Hid (l1.length = n ∧ l2.length = n) := ⟨h1.len, h2.len⟩
 go_enter Tryd.func16, Tryd.ntmps16
 go_wp2
 go_loopw [5] (fun i wr => ∃ k q : Nat, k ≤ n ∧ i = .int .i64 k ∧ l1.take k = l2.take k ∧ wr = w.drewN q) (fun i _ => n - (intOf i).toNat)
 case atStart => exact ⟨0, 0, Nat.zero_le _, rfl, rfl, rfl⟩
 case round =>
  obtain ⟨k, q, hk, rfl, he, rfl⟩ := hrel
  have HE := Lib.hid he
  clear he
  by_cases hlt : k < n
  ·obtain ⟨b, o, x, rfl, _, hx, hx0, hx1, hc⟩ := h1.at' hlt
   obtain ⟨b', o', y, rfl, _, hy, hy0, hy1, hc1⟩ := h2.at' hlt
   have HX : Hid (l1[k]? = some x ∧ l2[k]? = some y) := ⟨hx, hy⟩
   clear hx hy
   by_cases hxy : x = y
   ·subst hxy
    go_wp2
    go_quiet (fail)
    go_wp2
    go_roundw
    case rel => exact ⟨k + 1, _, by omega, by go_num, by rw [List.take_add_one, List.take_add_one, HE.out, HX.out.1, HX.out.2], rfl⟩
    case measure => simp [intOf]; omega
   ·have hb : (x != y) = true := by simp [hxy]
    have HN := Lib.hid hxy
    clear hxy
    go_wp2
    go_quiet (fail)
    go_wp2
    go_ret
    refine ⟨ret_bool ?_, _, World.drewN_drewN _ _ _⟩
    unfold eqB
    rw [decide_eq_false]
    intro e
    have := HX.out
    rw [e] at this
    rw [this.1] at this
    exact HN.out (Option.some.inj this.2)
  ·go_wp2
   go_ret
   refine ⟨ret_bool ?_, _, rfl⟩
   have h := HL.out
   have e := HE.out
   rw [List.take_of_length_le (by omega), List.take_of_length_le (by omega)] at e
   unfold eqB
   rw [decide_eq_true e]
theorem requal_any (A1 A2 : Option Addr) (n1 c1 n2 c2 : Nat) (l1 l2 : List Int) (w : World) (B : Nat) (h1 : Byt w B A1 n1 l1) (h2 : Byt w B A2 n2 l2) (hn1 : n1 ≤ 140737488355328) (hn2 : n2 ≤ 140737488355328) :
  Calls Tryd.prog 16 #[.slice A1 n1 c1, .slice A2 n2 c2] w fun e w' => e = .returned (.bool (eqB l1 l2)) ∧ ∃ q, w' = w.drewN q := by
 by_cases h : n1 = n2
 ·subst h
  exact requal_same _ _ _ _ _ _ _ _ _ h1 h2 hn1
 ·have : eqB l1 l2 = false := decide_eq_false (fun e => h (by rw [← h1.len, ← h2.len, e]))
  rw [this]
  exact requal_len _ _ _ _ _ _ _ h hn1 hn2
end Go.Proofs.YtmeaeeehnkcblaaDoor

namespace Go.Proofs.YtmeaeeehnkcblaaDoor
open Go.RowKit
section
variable {P : Program} {ops : Array Oper} {S : World → Prop} {Q : Exit → Act → World → Prop}
def StillC (P : Program) (ops : Array Oper) (S : World → Prop) (o : Oper) (v : Value) (a : Act) : Prop :=
 Region.wanted o (yielded ops a.tmps) = true ∧ ∀ w, S w → ∃ f args, (execOp a.eval o).run P w = .ok (.enter f args) w ∧ Calls P f args w fun e w' => e = .returned v ∧ w' = w
theorem StillC.go {i : Nat} {o : Oper} {v : Value} {a : Act} {K : Act → World → Prop} {w : World} (h : StillC P ops S o v a) (hi : ops[i]? = some o) (hS : S w) (hK : K (a.put o.dst v) w) : wpOp P ops Q i K a w := by
 obtain ⟨h1, h2⟩ := h
 obtain ⟨f, args, he, hc⟩ := h2 w hS
 unfold wpOp
 rw [hi]
 simp only [h1, if_true]
 left
 unfold Oper.wp
 rw [he]
 simp only [Oper.upon]
 refine hc.mono ?_
 rintro e w' ⟨rfl, rfl⟩
 exact hK
theorem StillC.like {o : Oper} {v : Value} {a b : Act} (h : StillC P ops S o v a) (he : execOp b.eval o = execOp a.eval o) (hw : Region.wanted o (yielded ops b.tmps) = Region.wanted o (yielded ops a.tmps)) : StillC P ops S o v b :=
 ⟨hw.trans h.1, fun w hS => by rw [he]; exact h.2 w hS⟩
theorem StillC.across {j : Nat} {o oj : Oper} {v : Value} {a : Act} {K : Act → World → Prop} {w : World} (hy : StillC P ops S o v a) (hj : ops[j]? = some oj) (hap : o.apart ops oj = true) (hs : ∀ cs b, o.op ≠ .select cs b) (hsj : ∀ cs b, oj.op ≠ .select cs b)
  (h : wpOp P ops (NoPanic Q) j K (a.put o.dst v) w) : wpOp P ops (NoPanic Q) j (fun b w' => StillC P ops S o v b ∧ K (b.put o.dst v) w') a w := by
 obtain ⟨p1, p2, p3⟩ := Oper.apart_spec hap
 have stay : ∀ (b : Act) (u : Value), StillC P ops S o v b → StillC P ops S o v (b.put oj.dst u) := fun b u hb => hb.like (execOp_put o hs b oj.dst u p3) (wanted_put o b oj.dst u p3)
 have swap : ∀ (b : Act) (u : Value), (b.put oj.dst u).put o.dst v = (b.put o.dst v).put oj.dst u := fun b u => (Act.put_comm b v u p2).symm
 unfold wpOp at h ⊢
 rw [hj] at h ⊢
 dsimp only at h ⊢
 rw [wanted_put oj a o.dst v p1] at h
 by_cases hw : Region.wanted oj (yielded ops a.tmps) = true
 ·rw [if_pos hw] at h ⊢
  rcases h with h | ⟨k1, k2⟩
  ·left
   unfold Oper.wp at h ⊢
   rw [execOp_put oj hsj a o.dst v p1] at h
   cases hr : (execOp a.eval oj).run P w with
   | halt x w' =>
    rw [hr] at h
    cases x <;> simp only [Oper.upon] at h ⊢
    case panic u => exact h
   | ok n w' =>
    rw [hr] at h
    cases n <;> simp only [Oper.upon] at h ⊢
    case value u => exact ⟨stay a u hy, by rw [swap]; exact h⟩
    case skip => exact ⟨stay a _ hy, by rw [swap]; exact h⟩
    case defer d =>
     refine ⟨stay _ _ (hy.like (b := { a with defers := d :: a.defers }) rfl rfl), ?_⟩
     rw [swap, ← Act.put_defers]
     exact h
    case enter f args =>
     refine Calls.mono h fun e w2 he => ?_
     cases e with
     | returned u => exact ⟨stay a u hy, by rw [swap]; exact he⟩
     | panicked c => exact he
     | outgrown => exact he
    case row r args => exact Rows.mono h fun u w2 he => ⟨stay a u hy, by rw [swap]; exact he⟩
  ·right
   refine ⟨?_, k2⟩
   unfold Oper.asks at k1 ⊢
   rw [execOp_put oj hsj a o.dst v p1] at k1
   exact k1
 ·rw [if_neg hw] at h ⊢
  exact ⟨stay a _ hy, by rw [swap]; exact h⟩
theorem held_call {i : Nat} {o : Oper} {v : Value} (hi : ops[i]? = some o) (hsel : ∀ (j : Nat) (o : Oper) cs b, ops[j]? = some o → o.op ≠ .select cs b) : ∀ (f : Nat) (listed : Array Bool) (a : Act) (w : World),
  (∀ j oj, ops[j]? = some oj → j ≠ i → listed.getD j true = false → (∀ e ∈ oj.after, Region.binds .any e = true → e.on ≠ i) → o.apart ops oj = true) → i ∈ Region.ready .any ops listed → StillC P ops S o v a → S w →
  wpAnyH P .any ops (NoPanic Q) S f (listed.setIfInBounds i true) (a.put o.dst v) w → wpAnyH P .any ops (NoPanic Q) S (f + 1) listed a w := by
 intro f
 induction f with
 | zero =>
  intro listed a w _ hr hy hS H
  refine ⟨fun h0 => (by rw [h0] at hr; cases hr), fun j hj => ?_⟩
  rcases Decidable.em (j = i) with e | e
  ·exact e ▸ hy.go hi hS ⟨hS, H⟩
  ·have h1 := ready_mono hj e
   rw [H.1] at h1
   cases h1
 | succ f ih =>
  intro listed a w hfree hr hy hS H
  refine ⟨fun h0 => (by rw [h0] at hr; cases hr), fun j hj => ?_⟩
  rcases Decidable.em (j = i) with e | e
  ·exact e ▸ hy.go hi hS ⟨hS, H⟩
  ·obtain ⟨hun, oj, hoj, hall⟩ := mem_ready.1 hj
   have hno : ∀ e ∈ oj.after, Region.binds .any e = true → e.on ≠ i := by
    intro e he hb hon
    have h1 := hall e he hb
    have h0 := (mem_ready.1 hr).1
    rw [hon] at h1
    rcases Nat.lt_or_ge i listed.size with hlt | hge
    ·simp [hlt] at h0 h1
     rw [h0] at h1
     cases h1
    ·simp [Array.getElem?_eq_none hge] at h1
   have h2 := hy.across hoj (hfree j oj hoj e hun hno) (fun cs b => hsel i o cs b hi) (fun cs b => hsel j oj cs b hoj) (H.2 j (ready_mono hj e))
   refine wpOp_mono (fun b w' h3 => ⟨h3.2.1, ih _ b w' (fun k ok hk hki hkl hkn => hfree k ok hk hki ?_ hkn) (ready_mono hr (Ne.symm e)) h3.1 h3.2.1 ?_⟩) h2
   ·rcases Decidable.em (j = k) with e2 | e2
    ·exact e2 ▸ hun
    ·rwa [getD_set_ne true e2] at hkl
   ·rw [Array.setIfInBounds_comm _ _ e]
    exact h3.2.2
end
section
variable {P : Program} {N : Fr} {Q : Exit → Act → World → Prop} {E : Env} {I S : World → Prop} {ops : Array Oper} {f : Nat} {listed : Array Bool}
theorem TH.takeC {o : Oper} {d : Nat} {r : Value} {g : FuncId} {fn : Func} {xs : List Operand} {ts : Array TypeId} {vs : List Value} {listed' : Array Bool} (i : Nat) (hi : ops[i]? = some o) (hs : Region.noSelect ops = true) (hf : Region.free .any ops listed i = true) (hr : (Region.ready .any ops listed).contains i = true) (hl : listed.setIfInBounds i true = listed')
  (hg : o.guard = none) (hd : o.dst = some d) (hN : Nat.blt d N.n = true) (ho : o.op = .call { callee := .value (.func g), args := xs.toArray, argTypes := ts }) (hx : evs E xs = some vs) (hfn : P.funcs[g]? = some fn) (hn : (fn.name == "runtime.NumGoroutine") = false) (hb : fn.body.isNone = false)
  (hc : ∀ w, S w → Calls P g vs.toArray w fun e w' => e = .returned r ∧ w' = w) (hS : ∀ w, I w → S w)
  (h : TH P N ops S Q f listed' ((d, r) :: E) I) : TH P N ops S Q (f + 1) listed E I := fun a w ha hw => by
 subst hl
 refine held_call hi (Region.noSelect_spec hs) f listed a w (Region.free_spec hi hf) (by simpa using hr) (v := r) ⟨by simp [Region.wanted, hg], fun w' hw' => ⟨g, vs.toArray, enters ha ho hx hfn hn hb, hc w' hw'⟩⟩ (hS w hw) ?_
 exact h (a.put o.dst r) w (hd ▸ ha.put d r (by simpa [Nat.blt_eq] using hN)) hw
/-! operations with a guard -/
theorem op_of_list' {o : Oper} {i : Nat} {K : Act → World → Prop} {a : Act} {w : World} (hi : ops[i]? = some o) (h : wpList P ops (Exit.then K (NoPanic Q)) [o] a w) : wpOp P ops (NoPanic Q) i K a w := by
 unfold wpOp
 rw [hi]
 unfold wpList at h
 dsimp only
 by_cases hw : Region.wanted o (yielded ops a.tmps) = true
 ·simp only [hw, if_true] at h ⊢
  rcases h with h | ⟨h1, h2⟩
  ·left
   unfold Oper.wp at h ⊢
   generalize (execOp a.eval o).run P w = r at *
   cases r with
   | ok n w' => cases n <;> exact h
   | halt x w' => cases x <;> exact h
  ·exact .inr ⟨h1, h2⟩
 ·rw [if_neg hw] at h ⊢
  exact h
theorem TH.only' {o : Oper} {listed' : Array Bool} (i : Nat) (hi : ops[i]? = some o) (hr : Region.ready .any ops listed = [i]) (hl : listed.setIfInBounds i true = listed')
  (h : TL P N ops (Exit.then (Hd P ops S Q f listed') (NoPanic Q)) [o] E I) : TH P N ops S Q (f + 1) listed E I := fun a w ha hw => by
 subst hl
 refine wpAnyH_all hr (by simp) fun j hj => ?_
 have : j = i := by simpa using hj
 subst this
 exact op_of_list' hi (h a w ha hw)
theorem TH.two' {o o' : Oper} {listed1 listed2 : Array Bool} (i j : Nat) (hi : ops[i]? = some o) (hj : ops[j]? = some o') (hr : Region.ready .any ops listed = [i, j]) (hl1 : listed.setIfInBounds i true = listed1) (hl2 : listed.setIfInBounds j true = listed2)
  (h : TL P N ops (Exit.then (Hd P ops S Q f listed1) (NoPanic Q)) [o] E I) (h' : TL P N ops (Exit.then (Hd P ops S Q f listed2) (NoPanic Q)) [o'] E I) : TH P N ops S Q (f + 1) listed E I := fun a w ha hw => by
 subst hl1 hl2
 refine wpAnyH_all hr (by simp) fun k hk => ?_
 have : k = i ∨ k = j := by simpa using hk
 rcases this with rfl | rfl
 ·exact op_of_list' hi (h a w ha hw)
 ·exact op_of_list' hj (h' a w ha hw)
theorem TH.takeG {o : Oper} {d j dg : Nat} {b : Bool} {v : Value} {listed' : Array Bool} (i : Nat) (hi : ops[i]? = some o) (hs : Region.noSelect ops = true) (hf : Region.free .any ops listed i = true) (hr : (Region.ready .any ops listed).contains i = true) (hl : listed.setIfInBounds i true = listed')
  (hg : o.guard = some (j, b)) (hgd : (ops[j]?).bind (·.dst) = some dg) (hgE : look E dg = some (.bool b)) (hd : o.dst = some d) (hN : Nat.blt d N.n = true) (hv : Gives P N o E S v) (hS : ∀ w, I w → S w)
  (h : TH P N ops S Q f listed' ((d, v) :: E) I) : TH P N ops S Q (f + 1) listed E I := fun a w ha hw => by
 subst hl
 refine wpAnyH_take hi hs hf hr (fun c a w h => h) (v := v) (.inl ⟨by rw [wanted_of ha hg hgd hgE]; simp, fun w' hw' => hv a w' ha hw'⟩) (hS w hw) ?_
 exact h (a.put o.dst v) w (hd ▸ ha.put d v (by simpa [Nat.blt_eq] using hN)) hw
theorem TH.off {o : Oper} {d j dg : Nat} {b b' : Bool} {listed' : Array Bool} (i : Nat) (hi : ops[i]? = some o) (hs : Region.noSelect ops = true) (hf : Region.free .any ops listed i = true) (hr : (Region.ready .any ops listed).contains i = true) (hl : listed.setIfInBounds i true = listed')
  (hg : o.guard = some (j, b')) (hgd : (ops[j]?).bind (·.dst) = some dg) (hgE : look E dg = some (.bool b)) (hne : (b == b') = false) (hd : o.dst = some d) (hN : Nat.blt d N.n = true) (hS : ∀ w, I w → S w)
  (h : TH P N ops S Q f listed' ((d, undef) :: E) I) : TH P N ops S Q (f + 1) listed E I := fun a w ha hw => by
 subst hl
 refine wpAnyH_take hi hs hf hr (fun c a w h => h) (v := undef) (.inr ⟨by rw [wanted_of ha hg hgd hgE, hne], rfl⟩) (hS w hw) ?_
 exact h (a.put o.dst undef) w (hd ▸ ha.put d undef (by simpa [Nat.blt_eq] using hN)) hw
theorem TH.offU {o : Oper} {d j dg : Nat} {b' : Bool} {listed' : Array Bool} (i : Nat) (hi : ops[i]? = some o) (hs : Region.noSelect ops = true) (hf : Region.free .any ops listed i = true) (hr : (Region.ready .any ops listed).contains i = true) (hl : listed.setIfInBounds i true = listed')
  (hg : o.guard = some (j, b')) (hgd : (ops[j]?).bind (·.dst) = some dg) (hgE : look E dg = some undef) (hd : o.dst = some d) (hN : Nat.blt d N.n = true) (hS : ∀ w, I w → S w)
  (h : TH P N ops S Q f listed' ((d, undef) :: E) I) : TH P N ops S Q (f + 1) listed E I := fun a w ha hw => by
 subst hl
 have h1 : yielded ops a.tmps j = none := by
  have := ha.slot dg _ hgE
  simp [yielded, hgd, this, undef]
 have hw1 : Region.wanted o (yielded ops a.tmps) = false := by
  unfold Region.wanted
  rw [hg]
  simp [h1]
 refine wpAnyH_take hi hs hf hr (fun c a w h => h) (v := undef) (.inr ⟨hw1, rfl⟩) (hS w hw) ?_
 exact h (a.put o.dst undef) w (hd ▸ ha.put d undef (by simpa [Nat.blt_eq] using hN)) hw
end
end Go.Proofs.YtmeaeeehnkcblaaDoor

namespace Go.Proofs.YtmeaeeehnkcblaaDoor
open Go.RowKit
abbrev Tt : Bool := true
abbrev Ff : Bool := false
section
variable {P : Program} {N : Fr} {Q : Exit → Act → World → Prop} {E : Env} {ops : Array Oper} {l : List Oper} {o : Oper} {I : World → Prop}
theorem TL.mv {x : Operand} {d : Nat} {v : Value} (h : TL P N ops Q l ((d, v) :: E) I) (hg : o.guard = none := by rfl) (hd : o.dst = some d := by rfl) (hN : Nat.blt d N.n = true := by rfl) (ho : o.op = .move x := by rfl) (hx : ev E x = some v := by rfl) : TL P N ops Q (o :: l) E I := TL.val hg hd hN (gives_move ho hx) h
theorem TL.as_ {x : Operand} {d : Nat} {v : Value} (h : TL P N ops Q l ((d, v) :: E) I) (hg : o.guard = none := by rfl) (hd : o.dst = some d := by rfl) (hN : Nat.blt d N.n = true := by rfl) (ho : o.op = .assign x := by rfl) (hx : ev E x = some v := by rfl) : TL P N ops Q (o :: l) E I := TL.val hg hd hN (gives_assign ho hx) h
theorem TL.pk {c x y : Operand} {b : Bool} {d : Nat} {v : Value} (h : TL P N ops Q l ((d, v) :: E) I) (hg : o.guard = none := by rfl) (hd : o.dst = some d := by rfl) (hN : Nat.blt d N.n = true := by rfl) (ho : o.op = .pick c x y := by rfl) (hc : ev E c = some (.bool b) := by rfl) (hx : (if b then ev E x else ev E y) = some v := by rfl) : TL P N ops Q (o :: l) E I := TL.val hg hd hN (gives_pick ho hc hx) h
theorem TL.ex {x : Operand} {i : Nat} {vs : Array Value} {d : Nat} {v : Value} (h : TL P N ops Q l ((d, v) :: E) I) (hg : o.guard = none := by rfl) (hd : o.dst = some d := by rfl) (hN : Nat.blt d N.n = true := by rfl) (ho : o.op = .extract x i := by rfl) (hx : ev E x = some (.tuple vs) := by rfl) (hv : vs[i]? = some v := by rfl) : TL P N ops Q (o :: l) E I := TL.val hg hd hN (gives_extract ho hx hv) h
theorem TL.gu {j d : Nat} {b : Bool} (h : TL P N ops Q ({ o with guard := none } :: l) E I) (hg : o.guard = some (j, b) := by rfl) (hd : (ops[j]?).bind (·.dst) = some d := by rfl) (hE : look E d = some (.bool b) := by rfl) : TL P N ops Q (o :: l) E I := TL.on hg hd hE h
theorem TL.of {j d t : Nat} {b b' : Bool} (h : TL P N ops Q l ((t, undef) :: E) I) (hg : o.guard = some (j, b') := by rfl) (hd : (ops[j]?).bind (·.dst) = some d := by rfl) (hE : look E d = some (.bool b) := by rfl) (hne : (b == b') = false := by rfl) (ht : o.dst = some t := by rfl) (hN : Nat.blt t N.n = true := by rfl) : TL P N ops Q (o :: l) E I := TL.off hg hd hE hne ht hN h
end
section
variable {P : Program} {N : Fr} {ops : Array Oper} {S I : World → Prop} {Q : Exit → Act → World → Prop} {f : Nat} {listed : Array Bool} {E : Env}
theorem TH.tk {o : Oper} {d : Nat} {v : Value} {listed' : Array Bool} (i : Nat) (hi : ops[i]? = some o) (hg : o.guard = none) (hd : o.dst = some d) (hv : Gives P N o E S v) (hS : ∀ w, I w → S w) (h : TH P N ops S Q f listed' ((d, v) :: E) I)
  (hs : Region.noSelect ops = true := by kernel_rfl) (hf : Region.free .any ops listed i = true := by kernel_rfl) (hr : (Region.ready .any ops listed).contains i = true := by kernel_rfl) (hl : listed.setIfInBounds i true = listed' := by rfl) (hN : Nat.blt d N.n = true := by rfl) : TH P N ops S Q (f + 1) listed E I := TH.take i hi hs hf hr hl hg hd hN hv hS h
end
end Go.Proofs.YtmeaeeehnkcblaaDoor
