/-
  Texts of the proof, joined: UnSC, UnLawF, UnEq, UnLE, SymIns, UnIns, UnAdd, UnSF, UnBackL, URefA, URefB, URefC.
-/
import Derived.Test.YtleckflmckbheaaPv5
import Derived.Test.YtleckflmckbheaaPv1
import Derived.Test.YtleckflmckbheaaPv2
import Derived.Laws.StructEq
import Derived.Lib.Overlaps
set_option linter.unusedVariables false
set_option linter.unusedSimpArgs false
namespace Go.Proofs.Ytleckflmckbheaa
open Go.RowKit
set_option maxRecDepth 20000
def Rd2 (w : World) (A : Option Addr) (ss : List (Sg Int)) : Prop := Reads w w.heap.size 1 A ss.length (ss.map Sg.val) ∧ ∀ s ∈ ss, Reads w w.heap.size 1 s.A s.l.length (uv s.l) ∧ s.l.length ≤ 100000
theorem lists_at {ss ts : List (Sg Int)} {i : Nat} {s t : Sg Int} (h : ss.map (·.l) = ts.map (·.l)) (hs : ss[i]? = some s) (ht : ts[i]? = some t) : s.l = t.l := by
 have h1 := congrArg (fun z => z[i]?) h
 simp only [List.getElem?_map, hs, ht, Option.map_some, Option.some.injEq] at h1
 exact h1
theorem Rd2.of {w0 : Base} {L : List Pc} {w : World} {A : Option Addr} {c k : Nat} {e e2 : TypeId} {ss : List (Sg Int)} (h : Pm w0 L w) (hk : L[k]? = some (.row (.slice A ss.length c) e 1 ss.length (ss.map Sg.val))) (hs : ∀ s ∈ ss, Sg.pc e2 1 uv s ∈ L) (hm : ∀ s ∈ ss, s.l.length ≤ 100000) : Rd2 w A ss := by
 obtain ⟨B, h9⟩ := pm_reads h hk
 refine ⟨⟨h9.1, fun hn => by obtain ⟨ad, a1, a2, a3⟩ := h9.2 hn; exact ⟨ad, a1, by subst a1; exact (Pc.lt (h.at_ hk) ad.block rfl).2, a3⟩⟩, fun s hs2 => ⟨?_, hm s hs2⟩⟩
 obtain ⟨j, hj⟩ := List.getElem?_of_mem (hs s hs2)
 obtain ⟨B2, h8⟩ := pm_reads h hj
 exact ⟨h8.1, fun hn => by obtain ⟨ad, a1, a2, a3⟩ := h8.2 hn; exact ⟨ad, a1, (Pc.lt (h.at_ hj) ad.block (by show (Value.slice s.A s.l.length s.c).ownBlock = some ad.block; rw [a1]; rfl)).2, a3⟩⟩
theorem uscsz31 (w : World) : (sizeOf 31).run Try.prog w = .ok 1 w := rfl
theorem uscag31 (w : World) : (isAgg 31).run Try.prog w = .ok false w := rfl
theorem uscsz35 (w : World) : (sizeOf 35).run Try.prog w = .ok 1 w := rfl
theorem uscag35 (w : World) : (isAgg 35).run Try.prog w = .ok false w := rfl
set_option maxHeartbeats 1000000 in
theorem sc_any (A1 A2 : Option Addr) (n1 n2 c1 c2 : Nat) (ss ts : List (Sg Int)) (w : World) (h1 : Rd2 w A1 ss) (h2 : Rd2 w A2 ts) (hn1 : ss.length = n1) (hn2 : ts.length = n2) (hm1 : ss.length ≤ 100000) (hm2 : ts.length ≤ 100000) : Calls Try.prog 13 #[.slice A1 n1 c1, .slice A2 n2 c2] w fun e w' => e = .returned (.bool (decide (ss.map (·.l) = ts.map (·.l)))) ∧ Below w.heap.size w w' := by
 subst hn1 hn2
 refine begin_ (vs := [.slice A1 ss.length c1, .slice A2 ts.length c2]) Try.func13 rfl rfl rfl ?_ (Pm.start w)
 refine TC.seq_ (TC.region ?_)
 refine TL.as_ ?_
 refine TL.end_ (TX.then_ (TC.seq_ (TC.seq_ (TC.region ?_))))
 refine TL.mv ?_
 refine TL.val rfl rfl rfl (gives_len rfl Try.underlying28 rfl) ?_
 refine TL.mv ?_
 refine TL.val rfl rfl rfl (gives_len rfl Try.underlying28 rfl) ?_
 refine TL.vsplit rfl rfl rfl (gives_bin rfl rfl rfl (fun w => bin_neq w)) (fun h11 => ?_) (fun h11 => ?_)
 ·have q11 := of_decide_eq_true h11
  refine TL.end_ (TX.then_ (TC.condT rfl (TC.seq_ (TC.region ?_))))
  refine TL.as_ ?_
  refine TL.end_ (TX.then_ (TC.ret_ (TX.then_ret ?_)))
  exact ret_tmp Try.results13 rfl (fun w1 hw => ⟨by rw [decide_eq_false (fun hh => q11 (by have h1 := congrArg List.length hh; rw [List.length_map, List.length_map] at h1; rw [h1]))], hw.bel⟩)
 ·have q11 := of_decide_eq_false h11
  have hlen : ss.length = ts.length := by omega
  refine TL.end_ (TX.then_ (TC.condF rfl (TC.skip_ (TX.then_ (TC.seq_ (TC.seq_ (TC.region ?_)))))))
  refine TL.as_ ?_
  refine TL.end_ (TX.then_ (TC.block ?_))
  refine TC.loop_ (α := {i : Nat // i ≤ ss.length ∧ (ss.map (·.l)).take i = (ts.map (·.l)).take i}) (fun y => [(0, .slice A1 ss.length c1), (1, .slice A2 ts.length c2), (5, .int .i64 ((y.1 : Nat) : Int))]) (fun y => Pm w []) (fun y => ss.length - y.1) (⟨0, Nat.zero_le _, rfl⟩) ⟨rfl, rfl, rfl, trivial⟩ (fun w1 hw => hw) ?_
  rintro ⟨i, hi, hI⟩
  try dsimp only
  refine TC.seq_ (TC.seq_ (TC.region ?_))
  refine TL.mv ?_
  refine TL.mv ?_
  refine TL.val rfl rfl rfl (gives_len rfl Try.underlying28 rfl) ?_
  refine TL.vsplit rfl rfl rfl (gives_bin rfl rfl rfl (fun w => bin_lss w)) (fun h15 => ?_) (fun h15 => ?_)
  ·have q15 := of_decide_eq_true h15
   obtain ⟨s, hs⟩ : ∃ s, ss[i]? = some s := ⟨_, List.getElem?_eq_getElem (by omega)⟩
   obtain ⟨t, ht⟩ : ∃ t, ts[i]? = some t := ⟨_, List.getElem?_eq_getElem (by omega)⟩
   obtain ⟨b1, o1, hA1, hb1, hc1⟩ := h1.1.ad (by omega) (by decide)
   obtain ⟨b2, o2, hA2, hb2, hc2⟩ := h2.1.ad (by omega) (by decide)
   have hsl := h1.2 s (List.mem_of_getElem? hs)
   have htl := h2.2 t (List.mem_of_getElem? ht)
   refine TL.end_ (TX.then_ (TC.condT rfl (TC.skip_ (TX.then_ (TC.seq_ (TC.block (TC.seq_ (TC.seq_ ?_))))))))
   rcases Classical.em (s.l.length = t.l.length) with p1 | p1
   ·refine TC.quiet_ (E' := ?_) (by kernel_rfl) (by kernel_rfl) (fun w hw => hw.drawn _) ?_ ?_
    rotate_left
    ·refine TQ.val rfl rfl rfl (gives_move rfl rfl) ?_
     refine TQ.val rfl rfl rfl (gives_move rfl rfl) ?_
     refine TQ.val rfl rfl rfl (gives_at (v := .pointer (some ⟨b1, o1 + i * 1, none⟩)) rfl rfl rfl (fun w => at_el Try.underlying28 uscsz31 hA1 _ _ i (by omega) rfl w)) ?_
     refine TQ.val rfl rfl rfl (gives_load (v := .slice s.A s.l.length s.c) rfl rfl uscag31 (fun w1 hw => (hw.bel.cell hb1).trans (by rw [Nat.mul_one]; exact hc1 _ _ (by rw [List.getElem?_map, hs]; rfl)))) ?_
     refine TQ.val rfl rfl rfl (gives_len rfl Try.underlying31 rfl) ?_
     refine TQ.val rfl rfl rfl (gives_move rfl rfl) ?_
     refine TQ.val rfl rfl rfl (gives_move rfl rfl) ?_
     refine TQ.val rfl rfl rfl (gives_at (v := .pointer (some ⟨b2, o2 + i * 1, none⟩)) rfl rfl rfl (fun w => at_el Try.underlying28 uscsz31 hA2 _ _ i (by omega) rfl w)) ?_
     refine TQ.val rfl rfl rfl (gives_load (v := .slice t.A t.l.length t.c) rfl rfl uscag31 (fun w1 hw => (hw.bel.cell hb2).trans (by rw [Nat.mul_one]; exact hc2 _ _ (by rw [List.getElem?_map, ht]; rfl)))) ?_
     refine TQ.val rfl rfl rfl (gives_len rfl Try.underlying31 rfl) ?_
     refine TQ.val rfl rfl rfl (gives_bin rfl rfl rfl (fun w => bin_neq_f (by rw [p1]) w)) ?_
     exact TQ.end_
    refine TX.then_ (TC.condF rfl (TC.skip_ (TX.then_ (TC.seq_ (TC.region ?_)))))
    refine TL.as_ ?_
    refine TL.end_ (TX.then_ (TC.block ?_))
    refine TC.loop_ (α := {k : Nat // k ≤ s.l.length ∧ s.l.take k = t.l.take k}) (fun y => [(0, .slice A1 ss.length c1), (1, .slice A2 ts.length c2), (5, .int .i64 ((i : Nat) : Int)), (6, .int .i64 ((y.1 : Nat) : Int))]) (fun y => Pm w []) (fun y => s.l.length - y.1) (⟨0, Nat.zero_le _, rfl⟩) ⟨rfl, rfl, rfl, rfl, trivial⟩ (fun w1 hw => hw) ?_
    rintro ⟨k, hk, hJ⟩
    try dsimp only
    refine TC.seq_ (TC.seq_ (TC.region ?_))
    refine TL.mv ?_
    refine TL.mv ?_
    refine TL.mv ?_
    refine TL.val rfl rfl rfl (gives_at (v := .pointer (some ⟨b1, o1 + i * 1, none⟩)) rfl rfl rfl (fun w => at_el Try.underlying28 uscsz31 hA1 _ _ i (by omega) rfl w)) ?_
    refine TL.val rfl rfl rfl (gives_load (v := .slice s.A s.l.length s.c) rfl rfl uscag31 (fun w1 hw => (hw.bel.cell hb1).trans (by rw [Nat.mul_one]; exact hc1 _ _ (by rw [List.getElem?_map, hs]; rfl)))) ?_
    refine TL.val rfl rfl rfl (gives_len rfl Try.underlying31 rfl) ?_
    refine TL.vsplit rfl rfl rfl (gives_bin rfl rfl rfl (fun w => bin_lss w)) (fun h35 => ?_) (fun h35 => ?_)
    ·have q35 := of_decide_eq_true h35
     obtain ⟨x, hx⟩ : ∃ x, s.l[k]? = some x := ⟨_, List.getElem?_eq_getElem (by omega)⟩
     obtain ⟨y, hy⟩ : ∃ y, t.l[k]? = some y := ⟨_, List.getElem?_eq_getElem (by omega)⟩
     obtain ⟨b3, o3, hA3, hb3, hc3⟩ := hsl.1.ad (by omega) (by decide)
     obtain ⟨b4, o4, hA4, hb4, hc4⟩ := htl.1.ad (by omega) (by decide)
     refine TL.end_ (TX.then_ (TC.condT rfl (TC.skip_ (TX.then_ (TC.seq_ (TC.block (TC.seq_ ?_)))))))
     rcases Classical.em (x = y) with p3 | p3
     ·have hJ2 : s.l.take (k + 1) = t.l.take (k + 1) := by rw [List.take_add_one, List.take_add_one, hJ, hx, hy, p3]
      refine TC.quiet_ (E' := ?_) (by kernel_rfl) (by kernel_rfl) (fun w hw => hw.drawn _) ?_ ?_
      rotate_left
      ·refine TQ.val rfl rfl rfl (gives_move rfl rfl) ?_
       refine TQ.val rfl rfl rfl (gives_move rfl rfl) ?_
       refine TQ.val rfl rfl rfl (gives_at (v := .pointer (some ⟨b1, o1 + i * 1, none⟩)) rfl rfl rfl (fun w => at_el Try.underlying28 uscsz31 hA1 _ _ i (by omega) rfl w)) ?_
       refine TQ.val rfl rfl rfl (gives_load (v := .slice s.A s.l.length s.c) rfl rfl uscag31 (fun w1 hw => (hw.bel.cell hb1).trans (by rw [Nat.mul_one]; exact hc1 _ _ (by rw [List.getElem?_map, hs]; rfl)))) ?_
       refine TQ.val rfl rfl rfl (gives_move rfl rfl) ?_
       refine TQ.val rfl rfl rfl (gives_at (v := .pointer (some ⟨b3, o3 + k * 1, none⟩)) rfl rfl rfl (fun w => at_el Try.underlying31 uscsz35 hA3 _ _ k (by omega) rfl w)) ?_
       refine TQ.val rfl rfl rfl (gives_load (v := .int .u32 x) rfl rfl uscag35 (fun w1 hw => (hw.bel.cell hb3).trans (by rw [Nat.mul_one]; exact hc3 _ _ (by unfold uv; rw [List.getElem?_map, hx]; rfl)))) ?_
       refine TQ.val rfl rfl rfl (gives_move rfl rfl) ?_
       refine TQ.val rfl rfl rfl (gives_move rfl rfl) ?_
       refine TQ.val rfl rfl rfl (gives_at (v := .pointer (some ⟨b2, o2 + i * 1, none⟩)) rfl rfl rfl (fun w => at_el Try.underlying28 uscsz31 hA2 _ _ i (by omega) rfl w)) ?_
       refine TQ.val rfl rfl rfl (gives_load (v := .slice t.A t.l.length t.c) rfl rfl uscag31 (fun w1 hw => (hw.bel.cell hb2).trans (by rw [Nat.mul_one]; exact hc2 _ _ (by rw [List.getElem?_map, ht]; rfl)))) ?_
       refine TQ.val rfl rfl rfl (gives_move rfl rfl) ?_
       refine TQ.val rfl rfl rfl (gives_at (v := .pointer (some ⟨b4, o4 + k * 1, none⟩)) rfl rfl rfl (fun w => at_el Try.underlying31 uscsz35 hA4 _ _ k (by omega) rfl w)) ?_
       refine TQ.val rfl rfl rfl (gives_load (v := .int .u32 y) rfl rfl uscag35 (fun w1 hw => (hw.bel.cell hb4).trans (by rw [Nat.mul_one]; exact hc4 _ _ (by unfold uv; rw [List.getElem?_map, hy]; rfl)))) ?_
       refine TQ.val rfl rfl rfl (gives_bin rfl rfl rfl (fun w => bin_neq_f (p3) w)) ?_
       exact TQ.end_
      refine TX.then_ (TC.condF rfl (TC.skip_ (TX.in_normal (TX.then_ (TC.region ?_)))))
      refine TL.mv ?_
      refine TL.val rfl rfl rfl (gives_bin rfl rfl rfl (fun w => bin_add_ (r := ((k + 1 : Nat) : Int)) (by simp only [IntKind.wrap_i64]; omega) w)) ?_
      refine TL.as_ ?_
      refine TL.end_ ?_
      exact TX.round (⟨k + 1, by omega, hJ2⟩) (by show s.l.length - (k + 1) < s.l.length - k; omega) ⟨rfl, rfl, rfl, rfl, trivial⟩ (fun w1 hw => hw)
     ·refine TC.quiet_ (E' := ?_) (by kernel_rfl) (by kernel_rfl) (fun w hw => hw.drawn _) ?_ ?_
      rotate_left
      ·refine TQ.val rfl rfl rfl (gives_move rfl rfl) ?_
       refine TQ.val rfl rfl rfl (gives_move rfl rfl) ?_
       refine TQ.val rfl rfl rfl (gives_at (v := .pointer (some ⟨b1, o1 + i * 1, none⟩)) rfl rfl rfl (fun w => at_el Try.underlying28 uscsz31 hA1 _ _ i (by omega) rfl w)) ?_
       refine TQ.val rfl rfl rfl (gives_load (v := .slice s.A s.l.length s.c) rfl rfl uscag31 (fun w1 hw => (hw.bel.cell hb1).trans (by rw [Nat.mul_one]; exact hc1 _ _ (by rw [List.getElem?_map, hs]; rfl)))) ?_
       refine TQ.val rfl rfl rfl (gives_move rfl rfl) ?_
       refine TQ.val rfl rfl rfl (gives_at (v := .pointer (some ⟨b3, o3 + k * 1, none⟩)) rfl rfl rfl (fun w => at_el Try.underlying31 uscsz35 hA3 _ _ k (by omega) rfl w)) ?_
       refine TQ.val rfl rfl rfl (gives_load (v := .int .u32 x) rfl rfl uscag35 (fun w1 hw => (hw.bel.cell hb3).trans (by rw [Nat.mul_one]; exact hc3 _ _ (by unfold uv; rw [List.getElem?_map, hx]; rfl)))) ?_
       refine TQ.val rfl rfl rfl (gives_move rfl rfl) ?_
       refine TQ.val rfl rfl rfl (gives_move rfl rfl) ?_
       refine TQ.val rfl rfl rfl (gives_at (v := .pointer (some ⟨b2, o2 + i * 1, none⟩)) rfl rfl rfl (fun w => at_el Try.underlying28 uscsz31 hA2 _ _ i (by omega) rfl w)) ?_
       refine TQ.val rfl rfl rfl (gives_load (v := .slice t.A t.l.length t.c) rfl rfl uscag31 (fun w1 hw => (hw.bel.cell hb2).trans (by rw [Nat.mul_one]; exact hc2 _ _ (by rw [List.getElem?_map, ht]; rfl)))) ?_
       refine TQ.val rfl rfl rfl (gives_move rfl rfl) ?_
       refine TQ.val rfl rfl rfl (gives_at (v := .pointer (some ⟨b4, o4 + k * 1, none⟩)) rfl rfl rfl (fun w => at_el Try.underlying31 uscsz35 hA4 _ _ k (by omega) rfl w)) ?_
       refine TQ.val rfl rfl rfl (gives_load (v := .int .u32 y) rfl rfl uscag35 (fun w1 hw => (hw.bel.cell hb4).trans (by rw [Nat.mul_one]; exact hc4 _ _ (by unfold uv; rw [List.getElem?_map, hy]; rfl)))) ?_
       refine TQ.val rfl rfl rfl (gives_bin rfl rfl rfl (fun w => bin_neq_t (p3) w)) ?_
       exact TQ.end_
      refine TX.then_ (TC.condT rfl (TC.seq_ (TC.region ?_)))
      refine TL.as_ ?_
      refine TL.end_ (TX.then_ (TC.ret_ (TX.in_ret (TX.then_ret (TX.then_ret (TX.in_ret (TX.in_ret (TX.then_ret (TX.then_ret (TX.in_ret (TX.then_ret ?_)))))))))))
      exact ret_tmp Try.results13 rfl (fun w1 hw => ⟨by rw [decide_eq_false (fun hh => p3 (by have h1 := lists_at hh hs ht; rw [h1] at hx; exact Option.some.inj (hx.symm.trans hy)))], hw.bel⟩)
    ·have q35 := of_decide_eq_false h35
     have hst : s.l = t.l := by rw [List.take_of_length_le (by omega), List.take_of_length_le (by omega)] at hJ; exact hJ
     have hI2 : (ss.map (·.l)).take (i + 1) = (ts.map (·.l)).take (i + 1) := by rw [List.take_add_one, List.take_add_one, hI, List.getElem?_map, List.getElem?_map, hs, ht]; simp [hst]
     refine TL.end_ (TX.then_ (TC.condF rfl (TC.exit_ (TX.then_exit (TX.then_exit (TX.in_same (TX.in_normal (TX.then_ (TC.region ?_)))))))))
     refine TL.mv ?_
     refine TL.val rfl rfl rfl (gives_bin rfl rfl rfl (fun w => bin_add_ (r := ((i + 1 : Nat) : Int)) (by simp only [IntKind.wrap_i64]; omega) w)) ?_
     refine TL.as_ ?_
     refine TL.end_ ?_
     exact TX.round (⟨i + 1, by omega, hI2⟩) (by show ss.length - (i + 1) < ss.length - i; omega) ⟨rfl, rfl, rfl, trivial⟩ (fun w1 hw => hw)
   ·refine TC.quiet_ (E' := ?_) (by kernel_rfl) (by kernel_rfl) (fun w hw => hw.drawn _) ?_ ?_
    rotate_left
    ·refine TQ.val rfl rfl rfl (gives_move rfl rfl) ?_
     refine TQ.val rfl rfl rfl (gives_move rfl rfl) ?_
     refine TQ.val rfl rfl rfl (gives_at (v := .pointer (some ⟨b1, o1 + i * 1, none⟩)) rfl rfl rfl (fun w => at_el Try.underlying28 uscsz31 hA1 _ _ i (by omega) rfl w)) ?_
     refine TQ.val rfl rfl rfl (gives_load (v := .slice s.A s.l.length s.c) rfl rfl uscag31 (fun w1 hw => (hw.bel.cell hb1).trans (by rw [Nat.mul_one]; exact hc1 _ _ (by rw [List.getElem?_map, hs]; rfl)))) ?_
     refine TQ.val rfl rfl rfl (gives_len rfl Try.underlying31 rfl) ?_
     refine TQ.val rfl rfl rfl (gives_move rfl rfl) ?_
     refine TQ.val rfl rfl rfl (gives_move rfl rfl) ?_
     refine TQ.val rfl rfl rfl (gives_at (v := .pointer (some ⟨b2, o2 + i * 1, none⟩)) rfl rfl rfl (fun w => at_el Try.underlying28 uscsz31 hA2 _ _ i (by omega) rfl w)) ?_
     refine TQ.val rfl rfl rfl (gives_load (v := .slice t.A t.l.length t.c) rfl rfl uscag31 (fun w1 hw => (hw.bel.cell hb2).trans (by rw [Nat.mul_one]; exact hc2 _ _ (by rw [List.getElem?_map, ht]; rfl)))) ?_
     refine TQ.val rfl rfl rfl (gives_len rfl Try.underlying31 rfl) ?_
     refine TQ.val rfl rfl rfl (gives_bin rfl rfl rfl (fun w => bin_neq_t (by omega) w)) ?_
     exact TQ.end_
    refine TX.then_ (TC.condT rfl (TC.seq_ (TC.region ?_)))
    refine TL.as_ ?_
    refine TL.end_ (TX.then_ (TC.ret_ (TX.then_ret (TX.in_ret (TX.then_ret (TX.then_ret (TX.in_ret (TX.then_ret ?_))))))))
    exact ret_tmp Try.results13 rfl (fun w1 hw => ⟨by rw [decide_eq_false (fun hh => p1 (by rw [lists_at hh hs ht]))], hw.bel⟩)
  ·have q15 := of_decide_eq_false h15
   refine TL.end_ (TX.then_ (TC.condF rfl (TC.exit_ (TX.then_exit (TX.then_exit (TX.in_same (TX.then_ (TC.seq_ (TC.region ?_)))))))))
   refine TL.as_ ?_
   refine TL.end_ (TX.then_ (TC.ret_ ?_))
   have hE : ss.map (·.l) = ts.map (·.l) := by rw [List.take_of_length_le (by rw [List.length_map]; omega), List.take_of_length_le (by rw [List.length_map]; omega)] at hI; exact hI
   exact ret_tmp Try.results13 rfl (fun w1 hw => ⟨by rw [decide_eq_true hE], hw.bel⟩)
end Go.Proofs.Ytleckflmckbheaa

namespace Go.Proofs.Ytleckflmckbheaa
open Go.RowKit
theorem validF_iff (l : List Fc) : validF l ↔ l.length ≤ 1024 ∧ (∀ f ∈ l, 0 ≤ f.id ∧ f.a ≠ f.b) ∧ l.Pairwise fun x y => x.id < y.id := by
  constructor
  · intro h
    refine ⟨h.1, fun f hf => ?_, List.pairwise_iff_getElem.2 fun i j hi hj hij => ?_⟩
    · obtain ⟨p, hp⟩ := List.getElem?_of_mem hf
      have := h.2 p (List.getElem?_eq_some_iff.1 hp).1 f hp
      exact ⟨this.1, this.2.1⟩
    · exact h.asc i j _ _ hij (List.getElem?_eq_getElem hi) (List.getElem?_eq_getElem hj)
  · rintro ⟨h1, h2, h3⟩
    refine ⟨h1, fun i hi f hf => ?_⟩
    have hm := h2 f (List.mem_of_getElem? hf)
    refine ⟨hm.1, hm.2, fun g h0 hg => ?_⟩
    obtain ⟨a1, rfl⟩ := List.getElem?_eq_some_iff.1 hf
    obtain ⟨a2, rfl⟩ := List.getElem?_eq_some_iff.1 hg
    exact List.pairwise_iff_getElem.1 h3 (i - 1) i a2 a1 (by omega)
theorem forF_sublist : ∀ (l : List Fc) (R : Int → Int), (forF R l).Sublist l
  | [], _ => List.Sublist.refl _
  | f :: l, R => by
    rw [forF]
    split
    · exact (forF_sublist l R).cons _
    · exact (forF_sublist l _).cons_cons _
theorem validF_sub {l l' : List Fc} (h : validF l) (hs : l'.Sublist l) : validF l' := by
  rw [validF_iff] at h ⊢
  exact ⟨Nat.le_trans hs.length_le h.1, fun f hf => h.2.1 f (hs.subset hf), h.2.2.sublist hs⟩
theorem validF_forest {l : List Fc} (h : validF l) : validF (forest l) := validF_sub h (forF_sublist l _)
theorem asc_same {a b : List Int} (h : ∀ x, x ∈ a ↔ x ∈ b) : asc a = asc b := asc_eq _ _ (asc_asc a) (asc_asc b) fun x => by rw [mem_asc, mem_asc]; exact h x
theorem clsV_forest {l : List Fc} (h : validF l) : clsV l = clsV (forest l) := by
  rw [show clsV l = clsL l from if_pos h, show clsV (forest l) = clsL (forest l) from if_pos (validF_forest h)]
  unfold clsL
  rw [forest_rep, asc_same fun x => forest_adrs (fun f hf => (((validF_iff l).1 h).2.1 f hf).2) x]
theorem forest_sum {l : List Fc} {ss : List (Sg Int)} (h : validF l) (hs : ss.map (·.l) = clsV l) : (forest l).length + ss.length = (ss.map (fun s => s.l.length)).sum := by
  have e1 : ss.map (fun s => s.l.length) = (clsV l).map List.length := by rw [← hs, List.map_map]; rfl
  have e2 : ss.length = (clsV l).length := by rw [← hs, List.length_map]
  rw [e1, e2, show clsV l = clsL l from if_pos h]
  have h1 := forest_count (l := l) (asc_nodup (adrs l)) fun f hf => ⟨(mem_asc _ _).2 (mem_adrs.2 ⟨f, hf, .inl rfl⟩), (mem_asc _ _).2 (mem_adrs.2 ⟨f, hf, .inr rfl⟩)⟩
  have h2 := cls_sum (repF l) (asc (adrs l))
  unfold clsL
  omega
theorem clsV_small {l : List Fc} {ss : List (Sg Int)} (h : validF l) (hl : l.length ≤ 100) (hs : ss.map (·.l) = clsV l) : ss.length ≤ 200 ∧ ∀ s ∈ ss, s.l.length ≤ 100000 := by
  have e2 : ss.length = (clsV l).length := by rw [← hs, List.length_map]
  have hasc : (asc (adrs l)).length ≤ 200 := by have := asc_len (adrs l); rw [adrs_len] at this; omega
  rw [show clsV l = clsL l from if_pos h] at hs e2
  refine ⟨?_, fun s hm => ?_⟩
  · rw [e2]
    unfold clsL
    rw [cls_len]
    have h1 := forest_count (l := l) (asc_nodup (adrs l)) fun f hf => ⟨(mem_asc _ _).2 (mem_adrs.2 ⟨f, hf, .inl rfl⟩), (mem_asc _ _).2 (mem_adrs.2 ⟨f, hf, .inr rfl⟩)⟩
    rw [cls_len] at h1
    omega
  · have : s.l ∈ clsL l := by rw [← hs]; exact List.mem_map.2 ⟨s, hm, rfl⟩
    unfold clsL cls at this
    obtain ⟨r, _, e⟩ := List.mem_map.1 this
    rw [← e]
    have := List.length_filter_le (fun x => decide (repF l x = r)) (asc (adrs l))
    omega
theorem sc_is (A1 A2 : Option Addr) (n1 n2 c1 c2 : Nat) (ss ts : List (Sg Int)) (w : World) (h1 : Rd2 w A1 ss) (h2 : Rd2 w A2 ts) (hn1 : ss.length = n1) (hn2 : ts.length = n2) (hm1 : ss.length ≤ 100000) (hm2 : ts.length ≤ 100000) {t : Bool} (ht : decide (ss.map (·.l) = ts.map (·.l)) = t) : Calls Try.prog 13 #[.slice A1 n1 c1, .slice A2 n2 c2] w fun e w' => e = .returned (.bool t) ∧ Below w.heap.size w w' := by
  subst ht
  exact sc_any A1 A2 n1 n2 c1 c2 ss ts w h1 h2 hn1 hn2 hm1 hm2
end Go.Proofs.Ytleckflmckbheaa

namespace Go.Proofs.Ytleckflmckbheaa
open Go.RowKit
set_option maxRecDepth 20000
theorem fact_fields : Try.prog.fieldsOf 42 = (match Try.prog.underlying 42 with | some (.struct fs) => fs | _ => #[]) := rfl
theorem fact_eqn (a1 a2 a3 b1 b2 b3 : Int) (d : Nat) (w : World) : (Op.equalIn (d + 2) 42 (.agg #[.int .i64 a1, .int .u32 a2, .int .u32 a3]) (.agg #[.int .i64 b1, .int .u32 b2, .int .u32 b3])).run Try.prog w = .ok (decide (a1 = b1 ∧ a2 = b2 ∧ a3 = b3)) w := by
  rw [run_equalIn_agg w (d + 1) 42 _ _ (by rw [fact_fields, Try.underlying42]) (by kernel_rfl), fact_fields, Try.underlying42]
  show (Op.eqFields (d + 1) _ _ [_, _, _]).run _ _ = _
  have i1 : Try.prog.underlying 3 = some (.int .i64) := rfl
  have i2 : Try.prog.underlying 35 = some (.int .u32) := rfl
  simp [Op.eqFields, go_sem]
  by_cases e1 : a1 = b1
  · by_cases e2 : a2 = b2
    · by_cases e3 : a3 = b3 <;> simp [e1, e2, e3]
    · simp [e1, e2]
  · simp [e1]
theorem fc_eq (x y : Fc) : (x = y) ↔ x.id = y.id ∧ x.a = y.a ∧ x.b = y.b := by
  cases x; cases y; simp
theorem fc_eql (x y : Fc) (ox oy : Operand) (w : World) : (do eqGuard .eql 42 ox oy (.agg x.cells.toArray) (.agg y.cells.toArray); binOp .eql 42 (.agg x.cells.toArray) (.agg y.cells.toArray) : Sem Value).run Try.prog w = .ok (.bool (decide (x = y))) w := by
  rw [Sem.run_bind, run_eqGuard_agg w .eql 42 ox oy _ _ (by kernel_rfl), Result.andThen_ok, run_eql_struct]
  have h := fact_eqn x.id x.a x.b y.id y.a y.b 9998 w
  have h2 : (Op.equalIn 10000 42 (.agg x.cells.toArray) (.agg y.cells.toArray)).run Try.prog w = .ok (decide (x.id = y.id ∧ x.a = y.a ∧ x.b = y.b)) w := h
  rw [h2, Result.andThen_ok, decide_eq_decide.2 (fc_eq x y)]
theorem fc_neq (x y : Fc) (ox oy : Operand) (w : World) : (do eqGuard .neq 42 ox oy (.agg x.cells.toArray) (.agg y.cells.toArray); binOp .neq 42 (.agg x.cells.toArray) (.agg y.cells.toArray) : Sem Value).run Try.prog w = .ok (.bool (!decide (x = y))) w := by
  rw [Sem.run_bind, run_eqGuard_agg w .neq 42 ox oy _ _ (by kernel_rfl), Result.andThen_ok, run_neq_struct]
  have h := fact_eqn x.id x.a x.b y.id y.a y.b 9998 w
  have h2 : (Op.equalIn 10000 42 (.agg x.cells.toArray) (.agg y.cells.toArray)).run Try.prog w = .ok (decide (x.id = y.id ∧ x.a = y.a ∧ x.b = y.b)) w := h
  rw [h2, Result.andThen_ok, decide_eq_decide.2 (fc_eq x y)]
theorem fc_eql_is {x y : Fc} {t : Bool} (ht : decide (x = y) = t) (ox oy : Operand) (w : World) : (do eqGuard .eql 42 ox oy (.agg x.cells.toArray) (.agg y.cells.toArray); binOp .eql 42 (.agg x.cells.toArray) (.agg y.cells.toArray) : Sem Value).run Try.prog w = .ok (.bool t) w := by
  rw [← ht]; exact fc_eql x y ox oy w
theorem fc_neq_is {x y : Fc} {t : Bool} (ht : (!decide (x = y)) = t) (ox oy : Operand) (w : World) : (do eqGuard .neq 42 ox oy (.agg x.cells.toArray) (.agg y.cells.toArray); binOp .neq 42 (.agg x.cells.toArray) (.agg y.cells.toArray) : Sem Value).run Try.prog w = .ok (.bool t) w := by
  rw [← ht]; exact fc_neq x y ox oy w
end Go.Proofs.Ytleckflmckbheaa

namespace Go.Proofs.Ytleckflmckbheaa
open Go.RowKit
set_option maxRecDepth 20000
theorem wf_r32 {x : Int} (h : (Lit.int .u32 x).wf = true) : 0 ≤ x ∧ x ≤ 4294967295 := by
 simp [Lit.wf, IntKind.min, IntKind.max, IntKind.signed, IntKind.bits] at h; omega
theorem bin_neqb {P : Program} {t : TypeId} (ht : P.underlying t = some .bool) {x y : Operand} (a b : Bool) (w : World) : (do eqGuard .neq t x y (.bool a) (.bool b); binOp .neq t (.bool a) (.bool b) : Sem Value).run P w = .ok (.bool (a != b)) w := by
 have h : (eqGuard .neq t x y (.bool a) (.bool b) : Sem Unit).run P w = .ok () w := by simp [eqGuard, go_sem]
 have h2 : (binOp .neq t (.bool a) (.bool b) : Sem Value).run P w = .ok (.bool (a != b)) w := by
  have e : (Op.equalIn Op.maxDepth t (.bool a) (.bool b)).run P w = .ok (a == b) w := by
   rw [show Op.maxDepth = 9999 + 1 from rfl]
   exact run_equalIn_bool w 9999 t a b ht
  simp [binOp, Op.equal, go_sem, e]
  cases a <;> cases b <;> rfl
 simp [h, h2, go_sem]
theorem trl_chk {F : List Fc} (hF : Frs F) : ∀ {p : List Fc} {x l y : Int}, Trl F x l p y → chkF p x = some y
 | [], x, l, y, h => by cases h; rfl
 | f :: p, x, l, y, ⟨h1, _, h3, h4⟩ => by
  rw [chkF, if_neg (by rintro (hh | ⟨h5, h6⟩); (exact hF.ne f h1 hh); exact h3.elim h5 h6)]
  exact trl_chk hF h4
theorem ulenm8 : (Try.f8.name == "runtime.NumGoroutine") = false := by decide
theorem ulebd8 : Try.f8.body.isNone = false := rfl
theorem ulenm9 : (Try.f9.name == "runtime.NumGoroutine") = false := by decide
theorem ulebd9 : Try.f9.body.isNone = false := rfl
theorem ulenm10 : (Try.f10.name == "runtime.NumGoroutine") = false := by decide
theorem ulebd10 : Try.f10.body.isNone = false := rfl
theorem ulenm14 : (Try.f14.name == "runtime.NumGoroutine") = false := by decide
theorem ulebd14 : Try.f14.body.isNone = false := rfl
theorem ulenm15 : (Try.f15.name == "runtime.NumGoroutine") = false := by decide
theorem ulebd15 : Try.f15.body.isNone = false := rfl
theorem ulenm16 : (Try.f16.name == "runtime.NumGoroutine") = false := by decide
theorem ulebd16 : Try.f16.body.isNone = false := rfl
theorem ulenm17 : (Try.f17.name == "runtime.NumGoroutine") = false := by decide
theorem ulebd17 : Try.f17.body.isNone = false := rfl
theorem ulenm18 : (Try.f18.name == "runtime.NumGoroutine") = false := by decide
theorem ulebd18 : Try.f18.body.isNone = false := rfl
theorem ulenm12 : (Try.f12.name == "runtime.NumGoroutine") = false := by decide
theorem ulebd12 : Try.f12.body.isNone = false := rfl
theorem ulesz42 (w : World) : (sizeOf 42).run Try.prog w = .ok 3 w := rfl
theorem uleag42 (w : World) : (isAgg 42).run Try.prog w = .ok true w := rfl
theorem ulezv42 (w : World) : (zeroValue 42).run Try.prog w = .ok (.agg #[.int .i64 0, .int .u32 0, .int .u32 0]) w := rfl
set_option maxHeartbeats 1000000 in
theorem unionExplains_walk (A0 : Option Addr) (n0 c0 : Nat) (l0 : List Int) (xa xb : Int) (w : World) (hb0 : Byt w w.heap.size A0 n0 l0) (hc0 : n0 ≤ c0) (hm0 : c0 ≤ maxLen) (wa : (Lit.int .u32 xa).wf = true) (wb : (Lit.int .u32 xb).wf = true) :
  Calls Try.prog 4 #[.slice A0 n0 c0, .int .u32 xa, .int .u32 xb] w fun e w' => e = .returned (.bool true) ∧ Below w.heap.size w w' := by
 have hxa := wf_r32 wa
 have hxb := wf_r32 wb
 have hn0 : (n0 : Int) ≤ 9223372036854775807 := by unfold maxLen at hm0; omega
 refine begin_ (vs := [.slice A0 n0 c0, .int .u32 xa, .int .u32 xb]) Try.func4 rfl rfl rfl ?_ (Pm.start w)
 refine TC.seq_ (TC.region ?_)
 refine TL.as_ ?_
 refine TL.end_ (TX.then_ (TC.seq_ (TC.seq_ (TC.region ?_))))
 refine TL.pcall1 (r := .bool true) rfl rfl rfl rfl rfl Try.func8 ulenm8 ulebd8 (fun w1 hw => awake_true w1) ?_
 refine TL.val rfl rfl rfl (gives_boolnot rfl rfl) ?_
 refine TL.end_ (TX.then_ (TC.condF rfl (TC.skip_ (TX.then_ (TC.seq_ (TC.region ?_))))))
 refine TL.mv ?_
 refine TL.callNew (I := Pm w []) (p := fun cb w => Cod w cb) rfl rfl rfl rfl rfl Try.func9 ulenm9 ulebd9 (fun w1 hw => (roll_any A0 n0 c0 l0 w1 ((hb0.below hw.bel).more hw.bel.size) hc0 hn0).mono fun e w2 ⟨h1, h2, h3⟩ => ⟨h1, h2, cod_cells h2, h3⟩) cod_stab (fun wn hwn => ?_)
 have hwb := hwn.bel
 refine TL.as_ ?_
 refine TL.end_ (TX.then_ (TC.seq_ (TC.region ?_)))
 refine TL.mv ?_
 refine TL.pcallCod (k := 0) (α := {y : (Option Addr × Nat) × List Fc // validF y.2 ∧ (∀ f ∈ y.2, f.Ok) ∧ y.2.length ≤ 16 ∧ y.2.length ≤ y.1.2 ∧ y.1.2 ≤ maxLen}) (fun y => .slice y.1.1.1 y.1.2.length y.1.1.2) (fun y => [.row (.slice y.1.1.1 y.1.2.length y.1.1.2) 42 3 y.1.2.length (fcs y.1.2)]) rfl rfl rfl rfl rfl Try.func10 ulenm10 ulebd10 rfl (fun w1 hw hC1 => facts_cod wn.heap.size w1 hC1 16 (by decide)) ?_
 rintro ⟨⟨⟨Ax, cx⟩, x⟩, hV, hok, hxm, hxc, hxd⟩
 dsimp only [List.cons_append, List.nil_append]
 dsimp only at hV hok hxm hxc hxd ⊢
 refine TL.as_ ?_
 refine TL.end_ (TX.then_ ?_)
 refine TC.join (α := {y : Int × Int // (0 ≤ y.1 ∧ y.1 ≤ 4294967295) ∧ 0 ≤ y.2 ∧ y.2 ≤ 4294967295}) (fun y => [(1, .int .u32 y.1.1), (2, .int .u32 y.1.2), (7, .pointer (some ⟨wn.heap.size, 0, none⟩)), (8, .slice Ax x.length cx)]) (fun y => Pm wn [.row (.slice Ax x.length cx) 42 3 x.length (fcs x), .abs wn.heap.size (fun w => Cod w wn.heap.size)]) ?_ ?_
 ·refine TC.seq_ (TC.region ?_)
  refine TL.mv ?_
  refine TL.pcallCod (k := 1) (α := Bool) (fun x => .bool x) (fun x => []) rfl rfl rfl rfl rfl Try.func14 ulenm14 ulebd14 rfl (fun w1 hw hC1 => dbool_cod wn.heap.size w1 hC1 2 (by decide)) ?_
  rintro bb
  dsimp only [List.cons_append, List.nil_append]
  refine TL.end_ (TX.then_ ?_)
  refine TC.split (t := bb) rfl (fun c23 => ?_) (fun c23 => ?_)
  ·refine TC.region ?_
   refine TL.mv ?_
   refine TL.pcallCod (k := 1) (α := {a : Int // 167772161 ≤ a ∧ a ≤ 167772173}) (fun x => .int .u32 x.1) (fun x => []) rfl rfl rfl rfl rfl Try.func15 ulenm15 ulebd15 rfl (fun w1 hw hC1 => daddr_cod wn.heap.size w1 hC1) ?_
   rintro ⟨a2, ha21, ha22⟩
   dsimp only [List.cons_append, List.nil_append]
   refine TL.mv ?_
   refine TL.pcallCod (k := 1) (α := {a : Int // 167772161 ≤ a ∧ a ≤ 167772173}) (fun x => .int .u32 x.1) (fun x => []) rfl rfl rfl rfl rfl Try.func15 ulenm15 ulebd15 rfl (fun w1 hw hC1 => daddr_cod wn.heap.size w1 hC1) ?_
   rintro ⟨b2, hb21, hb22⟩
   dsimp only [List.cons_append, List.nil_append]
   refine TL.as_ ?_
   refine TL.as_ ?_
   refine TL.end_ ?_
   exact TX.joined (⟨(a2, b2), by dsimp only; omega, by dsimp only; omega⟩) (⟨rfl, rfl, rfl, rfl, trivial⟩) (fun w1 hw => hw)
  ·refine TC.skip_ ?_
   exact TX.joined (⟨(xa, xb), by dsimp only; omega, by dsimp only; omega⟩) (⟨rfl, rfl, rfl, rfl, trivial⟩) (fun w1 hw => hw)
 ·rintro ⟨⟨a, b⟩, har, hbr⟩
  dsimp only at har hbr ⊢
  refine TC.seq_ ?_
  have hfrs := forest_frs hV
  have hfl9 := forest_le x
  have hokf : ∀ f ∈ forest x, f.Ok := fun f hf => hok f (forF_sub x _ f hf)
  refine TC.region ?_
  refine TL.mv ?_
  refine TL.mv ?_
  refine TL.mv ?_
  refine TL.pcallPm (α := {y : (Option Addr × Nat) × List Fc × Bool // ExOk x a b y.2 ∧ y.2.1.length ≤ y.1.2 ∧ y.1.2 ≤ maxLen}) (fun y => .tuple #[.slice y.1.1.1 y.1.2.1.length y.1.1.2, .bool y.1.2.2]) (fun y => [.row (.slice y.1.1.1 y.1.2.1.length y.1.1.2) 42 3 y.1.2.1.length (fcs y.1.2.1)]) rfl rfl rfl rfl rfl Try.func16 ulenm16 ulebd16 (fun w1 hw => explain_any Ax x.length cx x w1 (by obtain ⟨B9, h8⟩ := pm_reads hw (k := 0) rfl; exact reads_up h8 (pm_row_lt hw (k := 0) rfl)) rfl hok a b har hbr) ?_
  rintro ⟨⟨⟨AP, cp⟩, p, ok⟩, hex, hcp1, hcp2⟩
  dsimp only [List.cons_append, List.nil_append] at hex hcp1 hcp2 ⊢
  iterate 5 (first | refine TL.as_ ?_ | refine TL.ex ?_ | refine TL.mv ?_)
  refine TL.end_ (TX.then_ ?_)
  refine TC.join (α := {u : Unit // (∀ f ∈ p, f ∈ forest x) ∧ p.Nodup ∧ p.length ≤ 100}) (fun y => [(8, .slice Ax x.length cx), (9, .slice AP p.length cp)]) (fun y => Pm wn [.row (.slice AP p.length cp) 42 3 p.length (fcs p), .row (.slice Ax x.length cx) 42 3 x.length (fcs x), .abs wn.heap.size (fun w => Cod w wn.heap.size)]) ?_ ?_
  ·refine TC.seq_ ?_
   have hcoh := hex
   cases ok with
   | true =>
    have hT := hex.2.2 rfl
    have hpF := hT.mem
    have hpn := hfrs.nodup _ _ _ _ hT
    have hpl : p.length ≤ (forest x).length := nodup_len hpn hpF
    have hpok : ∀ f ∈ p, f.Ok := fun f hf => hokf f (hpF f hf)
    refine TC.region ?_
    iterate 4 (first | refine TL.mv ?_)
    refine TL.pcall1 (r := .bool true) rfl rfl rfl rfl rfl Try.func17 ulenm17 ulebd17 (fun w1 hw => same_is Ax x.length cx x w1 (by obtain ⟨B9, h8⟩ := pm_reads hw (k := 1) rfl; exact reads_up h8 (pm_row_lt hw (k := 1) rfl)) rfl hok a b har hbr (decide_eq_true (hex.1.1 rfl))) ?_
    refine TL.val rfl rfl rfl (gives_bin2 (v := .bool false) rfl rfl rfl (fun w => bin_neqb Try.underlying4 true true w)) ?_
    iterate 12 (first | refine TL.gu ?_ | refine TL.mv ?_)
    refine TL.pcall1 (r := .bool true) rfl rfl rfl rfl rfl Try.func18 ulenm18 ulebd18 (fun w1 hw => check_is AP p.length cp p w1 (by obtain ⟨B9, h8⟩ := pm_reads hw (k := 0) rfl; exact reads_up h8 (pm_row_lt hw (k := 0) rfl)) rfl hpok (by omega) a b (trl_chk hfrs (hex.2.2 rfl))) ?_
    iterate 18 (first | refine TL.gu ?_ | refine TL.pk ?_ | refine TL.of ?_ | refine TL.mv ?_ | refine TL.val rfl rfl rfl (gives_boolnot rfl rfl) ?_)
    refine TL.end_ (TX.then_ (TC.condF rfl (TC.skip_ ?_)))
    exact TX.joined (⟨(), hpF, hpn, by omega⟩) (⟨rfl, rfl, trivial⟩) (fun w1 hw => hw)
   | false =>
    have hp0 : p = [] := hex.2.1 rfl
    have hpF : ∀ f ∈ p, f ∈ forest x := by rw [hp0]; exact fun f hf => absurd hf List.not_mem_nil
    have hpn : p.Nodup := by rw [hp0]; exact List.nodup_nil
    have hpl : p.length = 0 := by rw [hp0]; rfl
    refine TC.region ?_
    iterate 4 (first | refine TL.mv ?_)
    refine TL.pcall1 (r := .bool false) rfl rfl rfl rfl rfl Try.func17 ulenm17 ulebd17 (fun w1 hw => same_is Ax x.length cx x w1 (by obtain ⟨B9, h8⟩ := pm_reads hw (k := 1) rfl; exact reads_up h8 (pm_row_lt hw (k := 1) rfl)) rfl hok a b har hbr (decide_eq_false (fun hh => by have := hex.1.2 hh; simp at this))) ?_
    refine TL.val rfl rfl rfl (gives_bin2 (v := .bool false) rfl rfl rfl (fun w => bin_neqb Try.underlying4 false false w)) ?_
    iterate 23 (first | refine TL.gu ?_ | refine TL.mv ?_ | refine TL.of ?_ | refine TL.pk ?_ | refine TL.val rfl rfl rfl (gives_boolnot rfl rfl) ?_)
    refine TL.val rfl rfl rfl (gives_len rfl Try.underlying26 rfl) ?_
    refine TL.gu ?_
    refine TL.val rfl rfl rfl (gives_bin rfl rfl rfl (fun w => bin_gtr_f (by omega) w)) ?_
    refine TL.gu ?_
    refine TL.pk ?_
    refine TL.pk ?_
    refine TL.end_ (TX.then_ (TC.condF rfl (TC.skip_ ?_)))
    exact TX.joined (⟨(), hpF, hpn, by omega⟩) (⟨rfl, rfl, trivial⟩) (fun w1 hw => hw)
  ·rintro ⟨⟨⟩, hpF, hpn, hpl⟩
   try dsimp only
   refine TC.seq_ (TC.seq_ (TC.region ?_))
   refine TL.mv ?_
   refine TL.val rfl rfl rfl (gives_len rfl Try.underlying26 rfl) ?_
   refine TL.mv ?_
   refine TL.end_ (TX.then_ (TC.block ?_))
   refine TC.loop_ (α := {i : Nat // i ≤ p.length}) (fun y => [(8, .slice Ax x.length cx), (9, .slice AP p.length cp), (61, .int .i64 (p.length : Nat)), (62, .int .i64 ((y.1 : Nat) : Int))]) (fun y => Pm wn [.row (.slice AP p.length cp) 42 3 p.length (fcs p), .row (.slice Ax x.length cx) 42 3 x.length (fcs x), .abs wn.heap.size (fun w => Cod w wn.heap.size)]) (fun y => p.length - y.1) (⟨0, Nat.zero_le _⟩) ⟨rfl, rfl, rfl, rfl, trivial⟩ (fun w1 hw => hw) ?_
   rintro ⟨i, hi⟩
   try dsimp only
   refine TC.seq_ (TC.region ?_)
   refine TL.vsplit rfl rfl rfl (gives_bin rfl rfl rfl (fun w => bin_lss w)) (fun h63 => ?_) (fun h63 => ?_)
   ·have q63 := of_decide_eq_true h63
    have hi2 : i < p.length := by omega
    obtain ⟨f, hf⟩ : ∃ f, p[i]? = some f := ⟨_, List.getElem?_eq_getElem hi2⟩
    have hfF := hpF f (List.mem_of_getElem? hf)
    refine TL.fact (p := ∃ g, AP = some ⟨g, 0, none⟩) (fun w1 hw => rowA hw (k := 0) rfl (by omega)) ?_
    rintro ⟨gp, rfl⟩
    refine TL.end_ (TX.then_ (TC.seq_ (TC.condT rfl (TC.skip_ (TX.then_ (TC.seq_ (TC.block (TC.seq_ (TC.region ?_)))))))))
    refine TL.mv ?_
    refine TL.as_ ?_
    refine TL.end_ (TX.then_ (TC.seq_ (TC.region ?_)))
    refine TL.as_ ?_
    refine TL.end_ (TX.then_ (TC.seq_ (TC.seq_ (TC.region ?_))))
    refine TL.mv ?_
    refine TL.pcallRow (n := (forest x).length) (ys := fcs (forest x)) rfl rfl rfl rfl rfl Try.func12 ulenm12 ulebd12 (fun w1 hw => by have h9 := forest_any Ax x.length cx x w1 (by obtain ⟨B9, h8⟩ := pm_reads hw (k := 1) rfl; exact reads_up h8 (pm_row_lt hw (k := 1) rfl)) rfl hok; rw [show forV x = forest x from if_pos hV] at h9; exact h9) (fun AF66 cF66 hF661 hF662 => ?_)
    refine TL.val rfl rfl rfl (gives_len rfl Try.underlying26 rfl) ?_
    refine TL.mv ?_
    refine TL.end_ (TX.then_ (TC.block ?_))
    refine TC.loop_ (α := {y : Nat × Bool // y.1 ≤ (forest x).length ∧ (y.2 = true ↔ f ∈ (forest x).take y.1)}) (fun y => [(8, .slice Ax x.length cx), (9, .slice (some ⟨gp, 0, none⟩) p.length cp), (11, .int .i64 ((i : Nat) : Int)), (61, .int .i64 (p.length : Nat)), (62, .int .i64 ((i : Nat) : Int)), (66, .slice AF66 ((forest x).length) cF66), (67, .int .i64 ((forest x).length : Nat)), (68, .int .i64 ((y.1.1 : Nat) : Int)), (12, .bool y.1.2)]) (fun y => Pm wn [.row (.slice AF66 ((forest x).length) cF66) 42 3 ((forest x).length) (fcs (forest x)), .row (.slice (some ⟨gp, 0, none⟩) p.length cp) 42 3 p.length (fcs p), .row (.slice Ax x.length cx) 42 3 x.length (fcs x), .abs wn.heap.size (fun w => Cod w wn.heap.size)]) (fun y => (forest x).length - y.1.1) (⟨(0, false), Nat.zero_le _, iff_of_false (by simp) (by simp)⟩) ⟨rfl, rfl, rfl, rfl, rfl, rfl, rfl, rfl, rfl, trivial⟩ (fun w1 hw => hw) ?_
    rintro ⟨⟨j, fl⟩, hj, hfl⟩
    dsimp only at hj hfl ⊢
    refine TC.seq_ (TC.region ?_)
    refine TL.vsplit rfl rfl rfl (gives_bin rfl rfl rfl (fun w => bin_lss w)) (fun h69 => ?_) (fun h69 => ?_)
    ·have q69 := of_decide_eq_true h69
     have hj2 : j < (forest x).length := by omega
     obtain ⟨y, hy⟩ : ∃ y, (forest x)[j]? = some y := ⟨_, List.getElem?_eq_getElem hj2⟩
     have htk : (forest x).take (j + 1) = (forest x).take j ++ [y] := by rw [List.take_add_one, hy]; rfl
     refine TL.fact (p := ∃ g, AF66 = some ⟨g, 0, none⟩) (fun w1 hw => rowA hw (k := 0) rfl (by omega)) ?_
     rintro ⟨gF, rfl⟩
     refine TL.end_ (TX.then_ (TC.seq_ (TC.condT rfl (TC.skip_ (TX.then_ (TC.seq_ (TC.block (TC.seq_ (TC.region ?_)))))))))
     refine TL.val rfl rfl rfl (gives_at (v := .pointer (some ⟨gF, 0 + j * 3, none⟩)) rfl rfl rfl (fun w => at_el Try.underlying26 ulesz42 rfl _ _ j hj2 rfl w)) ?_
     refine TL.val rfl rfl rfl (gives_loadR (off := 0 + j * 3) rfl rfl uleag42 ulesz42 (fc_cells_len y) (fun w1 hw q u hu => fc_row hw (k := 0) (i := j) rfl hy q u hu)) ?_
     refine TL.pnew rfl rfl rfl (exec_alloc (cs := [.int .i64 0, .int .u32 0, .int .u32 0]) rfl ulezv42 rfl) (fun g14 => ?_)
     refine TL.pstore (k := 0) (vs := y.cells) rfl rfl rfl rfl rfl rfl rfl ulesz42 (fc_one y) (by show 3 ≤ 3; decide) (L' := [.blk g14 42 y.cells, .row (.slice (some ⟨gF, 0, none⟩) ((forest x).length) cF66) 42 3 ((forest x).length) (fcs (forest x)), .row (.slice (some ⟨gp, 0, none⟩) p.length cp) 42 3 p.length (fcs p), .row (.slice Ax x.length cx) 42 3 x.length (fcs x), .abs wn.heap.size (fun w => Cod w wn.heap.size)]) rfl ?_
     refine TL.end_ (TX.then_ ?_)
     cases fl with
     | true =>
      have hfl2 : true = true ↔ f ∈ (forest x).take (j + 1) := by rw [htk, List.mem_append]; exact iff_of_true rfl (.inl (hfl.1 rfl))
      refine TC.quiet_ (E' := ?_) (by kernel_rfl) (by kernel_rfl) (fun w hw => hw.drawn _) ?_ ?_
      rotate_left
      ·iterate 9 (first | refine TQ.off rfl rfl rfl rfl rfl rfl ?_ | refine TQ.val rfl rfl rfl (gives_move rfl rfl) ?_ | refine TQ.val rfl rfl rfl (gives_pick rfl rfl rfl) ?_)
       refine TQ.val rfl rfl rfl (gives_assign rfl rfl) ?_
       exact TQ.end_
      refine TX.in_normal (TX.then_ (TC.region ?_))
      refine TL.val rfl rfl rfl (gives_bin rfl rfl rfl (fun w => bin_add_ (r := ((j + 1 : Nat) : Int)) (by simp only [IntKind.wrap_i64]; omega) w)) ?_
      refine TL.mv ?_
      refine TL.end_ ?_
      exact TX.round (⟨(j + 1, true), hj2, hfl2⟩) (by show (forest x).length - (j + 1) < (forest x).length - j; omega) ⟨rfl, rfl, rfl, rfl, rfl, rfl, rfl, rfl, rfl, trivial⟩ (fun w1 hw => hw.tail)
     | false =>
      rcases Classical.em (y = f) with hgf | hgf
      ·have hfl2 : true = true ↔ f ∈ (forest x).take (j + 1) := by rw [htk, List.mem_append, List.mem_singleton]; exact iff_of_true rfl (.inr hgf.symm)
       refine TC.quiet_ (E' := ?_) (by kernel_rfl) (by kernel_rfl) (fun w hw => hw.drawn _) ?_ ?_
       rotate_left
       ·refine TQ.val rfl rfl rfl (gives_move rfl rfl) ?_
        refine TQ.val rfl rfl rfl (gives_move rfl rfl) ?_
        refine TQ.on rfl rfl rfl ?_
        refine TQ.val rfl rfl rfl (pm_loadV (k := 0) (i := 0) (n := 3) (v := .agg (y.cells).toArray) rfl rfl uleag42 ulesz42 rfl (by show 3 ≤ 3; decide) rfl) ?_
        iterate 5 (first | refine TQ.on rfl rfl rfl ?_ | refine TQ.val rfl rfl rfl (gives_move rfl rfl) ?_)
        refine TQ.val rfl rfl rfl (gives_at (v := .pointer (some ⟨gp, 0 + i * 3, none⟩)) rfl rfl rfl (fun w => at_el Try.underlying26 ulesz42 rfl _ _ i hi2 rfl w)) ?_
        refine TQ.on rfl rfl rfl ?_
        refine TQ.val rfl rfl rfl (gives_loadR (off := 0 + i * 3) rfl rfl uleag42 ulesz42 (fc_cells_len f) (fun w1 hw q u hu => fc_row hw (k := 2) (i := i) rfl hf q u hu)) ?_
        refine TQ.on rfl rfl rfl ?_
        refine TQ.val rfl rfl rfl (gives_bin2 (v := .bool true) rfl rfl rfl (fun w => fc_eql_is (by exact decide_eq_true hgf) _ _ w)) ?_
        refine TQ.val rfl rfl rfl (gives_pick rfl rfl rfl) ?_
        refine TQ.val rfl rfl rfl (gives_assign rfl rfl) ?_
        exact TQ.end_
       refine TX.in_normal (TX.then_ (TC.region ?_))
       refine TL.val rfl rfl rfl (gives_bin rfl rfl rfl (fun w => bin_add_ (r := ((j + 1 : Nat) : Int)) (by simp only [IntKind.wrap_i64]; omega) w)) ?_
       refine TL.mv ?_
       refine TL.end_ ?_
       exact TX.round (⟨(j + 1, true), hj2, hfl2⟩) (by show (forest x).length - (j + 1) < (forest x).length - j; omega) ⟨rfl, rfl, rfl, rfl, rfl, rfl, rfl, rfl, rfl, trivial⟩ (fun w1 hw => hw.tail)
      ·have hfl2 : false = true ↔ f ∈ (forest x).take (j + 1) := by rw [htk, List.mem_append, List.mem_singleton]; exact iff_of_false (by simp) (fun hh => hh.elim (fun h1 => by have := hfl.2 h1; simp at this) (fun h1 => hgf h1.symm))
       refine TC.quiet_ (E' := ?_) (by kernel_rfl) (by kernel_rfl) (fun w hw => hw.drawn _) ?_ ?_
       rotate_left
       ·refine TQ.val rfl rfl rfl (gives_move rfl rfl) ?_
        refine TQ.val rfl rfl rfl (gives_move rfl rfl) ?_
        refine TQ.on rfl rfl rfl ?_
        refine TQ.val rfl rfl rfl (pm_loadV (k := 0) (i := 0) (n := 3) (v := .agg (y.cells).toArray) rfl rfl uleag42 ulesz42 rfl (by show 3 ≤ 3; decide) rfl) ?_
        iterate 5 (first | refine TQ.on rfl rfl rfl ?_ | refine TQ.val rfl rfl rfl (gives_move rfl rfl) ?_)
        refine TQ.val rfl rfl rfl (gives_at (v := .pointer (some ⟨gp, 0 + i * 3, none⟩)) rfl rfl rfl (fun w => at_el Try.underlying26 ulesz42 rfl _ _ i hi2 rfl w)) ?_
        refine TQ.on rfl rfl rfl ?_
        refine TQ.val rfl rfl rfl (gives_loadR (off := 0 + i * 3) rfl rfl uleag42 ulesz42 (fc_cells_len f) (fun w1 hw q u hu => fc_row hw (k := 2) (i := i) rfl hf q u hu)) ?_
        refine TQ.on rfl rfl rfl ?_
        refine TQ.val rfl rfl rfl (gives_bin2 (v := .bool false) rfl rfl rfl (fun w => fc_eql_is (by exact decide_eq_false hgf) _ _ w)) ?_
        refine TQ.val rfl rfl rfl (gives_pick rfl rfl rfl) ?_
        refine TQ.val rfl rfl rfl (gives_assign rfl rfl) ?_
        exact TQ.end_
       refine TX.in_normal (TX.then_ (TC.region ?_))
       refine TL.val rfl rfl rfl (gives_bin rfl rfl rfl (fun w => bin_add_ (r := ((j + 1 : Nat) : Int)) (by simp only [IntKind.wrap_i64]; omega) w)) ?_
       refine TL.mv ?_
       refine TL.end_ ?_
       exact TX.round (⟨(j + 1, false), hj2, hfl2⟩) (by show (forest x).length - (j + 1) < (forest x).length - j; omega) ⟨rfl, rfl, rfl, rfl, rfl, rfl, rfl, rfl, rfl, trivial⟩ (fun w1 hw => hw.tail)
    ·have q69 := of_decide_eq_false h69
     obtain rfl : fl = true := hfl.2 (by rw [List.take_of_length_le (by omega)]; exact hfF)
     refine TL.end_ (TX.then_ (TC.seq_ (TC.condF rfl (TC.exit_ (TX.then_exit (TX.then_exit (TX.in_same (TX.then_ (TC.seq_ (TC.seq_ (TC.region ?_)))))))))))
     refine TL.as_ ?_
     refine TL.end_ (TX.then_ (TC.block ?_))
     refine TC.loop_ (α := {k : Nat // k ≤ i}) (fun y => [(8, .slice Ax x.length cx), (9, .slice (some ⟨gp, 0, none⟩) p.length cp), (11, .int .i64 ((i : Nat) : Int)), (12, .bool true), (61, .int .i64 (p.length : Nat)), (62, .int .i64 ((i : Nat) : Int)), (15, .int .i64 ((y.1 : Nat) : Int))]) (fun y => Pm wn [.row (.slice AF66 ((forest x).length) cF66) 42 3 ((forest x).length) (fcs (forest x)), .row (.slice (some ⟨gp, 0, none⟩) p.length cp) 42 3 p.length (fcs p), .row (.slice Ax x.length cx) 42 3 x.length (fcs x), .abs wn.heap.size (fun w => Cod w wn.heap.size)]) (fun y => i - y.1) (⟨0, Nat.zero_le _⟩) ⟨rfl, rfl, rfl, rfl, rfl, rfl, rfl, trivial⟩ (fun w1 hw => hw) ?_
     rintro ⟨k, hk⟩
     try dsimp only
     refine TC.seq_ (TC.seq_ (TC.region ?_))
     refine TL.mv ?_
     refine TL.mv ?_
     refine TL.vsplit rfl rfl rfl (gives_bin rfl rfl rfl (fun w => bin_lss w)) (fun h84 => ?_) (fun h84 => ?_)
     ·have q84 := of_decide_eq_true h84
      have hk2 : k < p.length := by omega
      obtain ⟨z, hz⟩ : ∃ z, p[k]? = some z := ⟨_, List.getElem?_eq_getElem hk2⟩
      have hzf : ¬ z = f := fun e => by have h9 := (List.getElem?_inj hk2 hpn).1 (hz.trans (by rw [e, hf])); omega
      refine TL.end_ (TX.then_ (TC.condT rfl (TC.skip_ (TX.then_ (TC.seq_ (TC.block ?_))))))
      refine TC.quiet_ (E' := ?_) (by kernel_rfl) (by kernel_rfl) (fun w hw => hw.drawn _) ?_ ?_
      rotate_left
      ·iterate 7 (first | refine TQ.val rfl rfl rfl (gives_move rfl rfl) ?_ | refine TQ.on rfl rfl rfl ?_)
       refine TQ.val rfl rfl rfl (gives_at (v := .pointer (some ⟨gp, 0 + k * 3, none⟩)) rfl rfl rfl (fun w => at_el Try.underlying26 ulesz42 rfl _ _ k hk2 rfl w)) ?_
       refine TQ.on rfl rfl rfl ?_
       refine TQ.val rfl rfl rfl (gives_loadR (off := 0 + k * 3) rfl rfl uleag42 ulesz42 (fc_cells_len z) (fun w1 hw q u hu => fc_row hw (k := 1) (i := k) rfl hz q u hu)) ?_
       iterate 5 (first | refine TQ.on rfl rfl rfl ?_ | refine TQ.val rfl rfl rfl (gives_move rfl rfl) ?_)
       refine TQ.val rfl rfl rfl (gives_at (v := .pointer (some ⟨gp, 0 + i * 3, none⟩)) rfl rfl rfl (fun w => at_el Try.underlying26 ulesz42 rfl _ _ i hi2 rfl w)) ?_
       refine TQ.on rfl rfl rfl ?_
       refine TQ.val rfl rfl rfl (gives_loadR (off := 0 + i * 3) rfl rfl uleag42 ulesz42 (fc_cells_len f) (fun w1 hw q u hu => fc_row hw (k := 1) (i := i) rfl hf q u hu)) ?_
       refine TQ.on rfl rfl rfl ?_
       refine TQ.val rfl rfl rfl (gives_bin2 (v := .bool true) rfl rfl rfl (fun w => fc_neq_is (by rw [decide_eq_false hzf]; rfl) _ _ w)) ?_
       refine TQ.val rfl rfl rfl (gives_pick rfl rfl rfl) ?_
       refine TQ.val rfl rfl rfl (gives_assign rfl rfl) ?_
       exact TQ.end_
      refine TX.in_normal (TX.then_ (TC.region ?_))
      refine TL.mv ?_
      refine TL.val rfl rfl rfl (gives_bin rfl rfl rfl (fun w => bin_add_ (r := ((k + 1 : Nat) : Int)) (by simp only [IntKind.wrap_i64]; omega) w)) ?_
      refine TL.as_ ?_
      refine TL.end_ ?_
      exact TX.round (⟨k + 1, by omega⟩) (by show i - (k + 1) < i - k; omega) ⟨rfl, rfl, rfl, rfl, rfl, rfl, rfl, trivial⟩ (fun w1 hw => hw)
     ·have q84 := of_decide_eq_false h84
      refine TL.end_ (TX.then_ (TC.condF rfl (TC.exit_ (TX.then_exit (TX.then_exit (TX.in_same (TX.then_ (TC.seq_ (TC.region ?_)))))))))
      refine TL.mv ?_
      refine TL.val rfl rfl rfl (gives_boolnot rfl rfl) ?_
      refine TL.end_ (TX.then_ (TC.condF rfl (TC.skip_ (TX.in_normal (TX.then_ (TC.region ?_))))))
      refine TL.val rfl rfl rfl (gives_bin rfl rfl rfl (fun w => bin_add_ (r := ((i + 1 : Nat) : Int)) (by simp only [IntKind.wrap_i64]; omega) w)) ?_
      refine TL.mv ?_
      refine TL.end_ ?_
      exact TX.round (⟨i + 1, hi2⟩) (by show p.length - (i + 1) < p.length - i; omega) ⟨rfl, rfl, rfl, rfl, trivial⟩ (fun w1 hw => hw.tail)
   ·have q63 := of_decide_eq_false h63
    refine TL.end_ (TX.then_ (TC.seq_ (TC.condF rfl (TC.exit_ (TX.then_exit (TX.then_exit (TX.in_same (TX.then_ (TC.seq_ (TC.region ?_))))))))))
    refine TL.as_ ?_
    refine TL.end_ (TX.then_ (TC.ret_ ?_))
    exact ret_tmp Try.results4 rfl (fun w1 hw => ⟨rfl, hwb.trans (hw.bel.mono hwb.size)⟩)
end Go.Proofs.Ytleckflmckbheaa

namespace Go.Proofs.Ytleckflmckbheaa
open Go.RowKit
section
variable {P : Program}
theorem run_copy_at (w : World) (dT sT ty elem : TypeId) (g off dLen dCap : Nat) (a : Addr) (sLen sCap size : Nat) (cur : Array Value) (t : TypeId) (cs : List Value) (hu : P.underlying dT = some (.slice elem)) (hs : ∀ w : World, (sizeOf elem).run P w = .ok size w)
  (hg : w.heap[g]? = some (.cells cur t (0, 0))) (hn : cs.length = Nat.min sLen dLen * size) (hsrc : ∀ j v, cs[j]? = some v → w.cell? (a.add j) = some v) (hfit : off + cs.length ≤ cur.size) (h1 : ∀ v ∈ cs, v.oneCell' = true) :
  (Builtin.copy_ #[dT, sT] ty #[.slice (some ⟨g, off, none⟩) dLen dCap, .slice (some a) sLen sCap]).run P w =
   .ok (goInt (Nat.min sLen dLen)) (w.setRow g (cur.toList.take off ++ cs ++ cur.toList.drop (off + cs.length)).toArray) := by
 have hfo := run_firstCells_some (P := P) w size (Nat.min sLen dLen) a sLen sCap cs hn hsrc
 have hst := run_storeCells_at P g off t cs 0 cur w hg (by simpa using hfit) h1
 simp only [Nat.add_zero] at hst
 have hmin : Nat.min sLen dLen = min sLen dLen := rfl
 rw [hmin] at hfo ⊢
 simp [Builtin.copy_, run_underlying hu, Builtin.lenOf, hs, hfo, hst]
variable {N : Fr} {Q : Exit → Act → World → Prop} {E : Env} {w0 : Base} {L : List Pc} {ops : Array Oper} {l : List Oper} {o : Oper}
theorem TL.zerosGrow {d k i m n c g : Nat} {s x : Operand} {t u e : TypeId} {size bytes : Nat} {xs zs : List Value} {z : Value} (hg : o.guard = none) (hd : o.dst = some d) (hN : Nat.blt d N.n = true)
  (ho : o.op = .call { callee := .builtin .append, args := #[s, x], argTypes := #[t, u] }) (hE : Elem P t e size bytes) (hu : P.underlying u = some (.int .i64)) (hs : ev E s = some (.slice (some ⟨g, 0, none⟩) i c)) (hx : ev E x = some (.int .i64 (m : Int)))
  (hk : L[k]? = some (.row (.slice (some ⟨g, 0, none⟩) n c) e size n xs)) (hin : i ≤ n) (hm : 0 < m) (hgrow : c < i + m) (hzv : (P.info? e).map (·.zero) = some (some z)) (hzs : (Builtin.zeroCells z.cells m).toList = zs) (hlim : (i + m) * bytes ≤ 140737488355328) {M : Nat} (hM : M = i + m)
  {ys : List Value} (hys : xs.take (i * size) = ys)
  (h : ∀ g' c', M ≤ c' → c' ≤ maxLen → TL P N ops Q l ((d, .slice (some ⟨g', 0, none⟩) M c') :: E) (Pm w0 (.row (.slice (some ⟨g', 0, none⟩) M c') e size M (ys ++ zs) :: L))) : TL P N ops Q (o :: l) E (Pm w0 L) := by
 subst hM hzs hys
 refine TL.run (α := { p : Nat × Nat // i + m ≤ p.2 ∧ p.2 ≤ maxLen }) (r := fun p => .slice (some ⟨p.1.1, 0, none⟩) (i + m) p.1.2) (I' := fun p => Pm w0 (.row (.slice (some ⟨p.1.1, 0, none⟩) (i + m) p.1.2) e size (i + m) (xs.take (i * size) ++ (Builtin.zeroCells z.cells m).toList) :: L)) hg hd hN (fun a w ha hw => ?_) (fun p => h p.1.1 p.1.2 p.2.1 p.2.2)
 obtain ⟨ti, z', hi, hz, hsz, hby, hzs⟩ := hE.info
 have hzz : z' = z := by
  rw [hi] at hzv
  simp only [Option.map_some, Option.some.injEq] at hzv
  rw [hz] at hzv
  injection hzv
 subst hzz
 have hmx : i + m ≤ maxLen := by
  have : i + m ≤ (i + m) * bytes := Nat.le_mul_of_pos_right _ hE.big
  unfold maxLen; omega
 have hrow := hw.at_ hk
 have hlen : xs.length = n * size := hrow.1
 have hpos : 0 < ti.size := by rw [hsz]; exact hE.pos
 have hlo : (xs.take (i * size)).length = i * ti.size := by
  rw [List.length_take, hlen, hsz]
  exact Nat.min_eq_left (Nat.mul_le_mul_right _ hin)
 have hr := run_zeros_grow (P := P) w t u o.type e ti hE.und hu hi z' hz hpos ⟨g, 0, none⟩ i c (xs.take (i * size)) hlo (fun j v hj => by
  have hj2 : xs[j]? = some v := by
   rw [List.getElem?_take] at hj
   split at hj
   ·exact hj
   ·cases hj
  have := pm_row hw hk hj2
  rw [← this]
  congr 1
  unfold Addr.add; split <;> simp_all) m hm hmx (by rw [hby]; exact hlim) hgrow
 have hge := grownCap_ge w (i + m) c e
 have hcm : grownCap w (i + m) c e ≤ maxLen := grownCap_le_maxLen w (i + m) c e hmx
 have hl : (Builtin.zeroCells z'.cells m).toList.length = m * size := by simp [size_zeroCells, hzs, hsz]
 have hl2 : (xs.take (i * size) ++ (Builtin.zeroCells z'.cells m).toList).length = (i + m) * size := by rw [List.length_append, hlo, hl, hsz, Nat.add_mul]
 obtain ⟨W, hW⟩ : ∃ W, W = w.drew.alloc (.cells ((xs.take (i * size)).toArray ++ Builtin.zeroCells z'.cells m ++ Builtin.zeroCells z'.cells (grownCap w (i + m) c e - (i + m))) e) := ⟨_, rfl⟩
 have hgr : w.grownBy W none := by
  subst hW
  exact ⟨rfl, rfl, rfl, by simp, fun k hk _ => Below.heap_alloc w.drew _ k hk⟩
 have hown : W.ownsRow w.heap.size e size (.slice (some ⟨w.heap.size, 0, none⟩) (i + m) (grownCap w (i + m) c e)) (i + m) (xs.take (i * size) ++ (Builtin.zeroCells z'.cells m).toList) := by
  refine ⟨hl2, .inr ⟨w.heap.size, _, ((xs.take (i * size)).toArray ++ Builtin.zeroCells z'.cells m ++ Builtin.zeroCells z'.cells (grownCap w (i + m) c e - (i + m))), rfl, Nat.le_refl _, ?_, hge, hcm, ?_, ?_⟩⟩
  ·rw [hW]; exact heap_alloc_new w.drew _
  ·rw [hsz] at hlo
   simp only [Array.size_append, List.size_toArray, size_zeroCells, hzs, hlo, ← Nat.add_mul]
   congr 1
   omega
  ·simp only [Array.toList_append, List.append_assoc]
   rw [← List.append_assoc, ← hl2]
   exact List.take_left
 refine ⟨⟨(w.heap.size, grownCap w (i + m) c e), hge, hcm⟩, W, ?_, hw.add ((Below.refl _ _).grown hgr (Nat.le_refl _) (fun k e => by cases e)) hown⟩
 unfold execOp; rw [ho]
 simp only [resolve, invoke, builtin, Sem.run_bind, Sem.run_pure, Result.andThen_ok, List.map_toArray, List.map_cons, List.map_nil, ha.eval hs, ha.eval hx, hr, hW]
theorem TL.copyRow {d k n c g off dl dc sl sc size : Nat} {s x : Operand} {t u e : TypeId} {ad : Addr} {xs cs xs' : List Value} (hg : o.guard = none) (hd : o.dst = some d) (hN : Nat.blt d N.n = true)
  (ho : o.op = .call { callee := .builtin .copy, args := #[s, x], argTypes := #[t, u] }) (ht : P.underlying t = some (.slice e)) (hz : ∀ w : World, (sizeOf e).run P w = .ok size w) (hs : ev E s = some (.slice (some ⟨g, off, none⟩) dl dc)) (hx : ev E x = some (.slice (some ad) sl sc))
  (hk : L[k]? = some (.row (.slice (some ⟨g, 0, none⟩) n c) e size n xs)) (hsrc : ∀ w, Pm w0 L w → ∀ j v, cs[j]? = some v → w.cell? (ad.add j) = some v) {m : Nat} (hm : Nat.min sl dl = m) (hn : cs.length = m * size) (hl : off + cs.length ≤ xs.length) (h1 : ∀ v ∈ cs, v.oneCell' = true)
  (hL : xs.take off ++ cs ++ xs.drop (off + cs.length) = xs')
  (h : TL P N ops Q l ((d, .int .i64 ((m : Nat) : Int)) :: E) (Pm w0 (L.set k (.row (.slice (some ⟨g, 0, none⟩) n c) e size n xs')))) : TL P N ops Q (o :: l) E (Pm w0 L) := by
 subst hL hm
 refine TL.run (α := Unit) (r := fun _ => .int .i64 ((Nat.min sl dl : Nat) : Int)) (I' := fun _ => Pm w0 (L.set k (.row (.slice (some ⟨g, 0, none⟩) n c) e size n (xs.take off ++ cs ++ xs.drop (off + cs.length))))) hg hd hN (fun a w ha hw => ?_) (fun _ => h)
 obtain ⟨cur, hcur, hfit, hown⟩ := row_put (hw.at_ hk) hl
 have hrun := run_copy_at (P := P) w t u o.type e g off dl dc ad sl sc size cur e cs ht hz hcur hn (hsrc w hw) hfit h1
 refine ⟨(), _, ?_, hw.turn hk (grown_setRow _ _) hown (fun g' hg' => .inl hg') (fun k o e => by cases e)⟩
 unfold execOp; rw [ho]
 simp only [resolve, invoke, builtin, Sem.run_bind, Sem.run_pure, Result.andThen_ok, List.map_toArray, List.map_cons, List.map_nil, ha.eval hs, ha.eval hx, hrun]
 rfl
theorem TL.rowgrow {d k n c g hi size : Nat} {x y : Operand} {t e : TypeId} {q : IntKind} {xs : List Value} (hg : o.guard = none) (hd : o.dst = some d) (hN : Nat.blt d N.n = true)
  (ho : o.op = .slice t x none (some y) none) (hx : ev E x = some (.slice (some ⟨g, 0, none⟩) n c)) (hy : ev E y = some (.int q (hi : Int))) (ht : P.underlying t = some (.slice (P.elem t))) (hs : ∀ w : World, (sizeOf (P.elem t)).run P w = .ok size w)
  (hk : L[k]? = some (.row (.slice (some ⟨g, 0, none⟩) n c) e size n xs)) (hn : n ≤ hi) (hc : hi ≤ c)
  (h : ∀ us : List Value, us.length = (hi - n) * size → TL P N ops Q l ((d, .slice (some ⟨g, 0, none⟩) hi c) :: E) (Pm w0 (L.set k (.row (.slice (some ⟨g, 0, none⟩) hi c) e size hi (xs ++ us))))) : TL P N ops Q (o :: l) E (Pm w0 L) := by
 refine TL.run (α := {us : List Value // us.length = (hi - n) * size}) (r := fun _ => .slice (some ⟨g, 0, none⟩) hi c) (I' := fun us => Pm w0 (L.set k (.row (.slice (some ⟨g, 0, none⟩) hi c) e size hi (xs ++ us.1)))) hg hd hN (fun a w ha hw => ?_) (fun us => h us.1 us.2)
 have hrow := hw.at_ hk
 obtain ⟨h1, h2⟩ := hrow
 rcases h2 with ⟨e1, _⟩ | ⟨g', cap, cur, a1, hb, hgg, hnc, hmx, hsz, htk⟩
 ·cases e1
 cases a1
 have hle : n * size ≤ hi * size := Nat.mul_le_mul_right _ hn
 have hle2 : hi * size ≤ cur.size := by rw [hsz]; exact Nat.mul_le_mul_right _ hc
 have hsplit : cur.toList.take (hi * size) = xs ++ (cur.toList.take (hi * size)).drop (n * size) := by
  have h5 := (List.take_append_drop (n * size) (cur.toList.take (hi * size))).symm
  rw [List.take_take, Nat.min_eq_left hle, htk] at h5
  exact h5
 have hus : ((cur.toList.take (hi * size)).drop (n * size)).length = (hi - n) * size := by
  rw [List.length_drop, List.length_take, Array.length_toList, Nat.min_eq_left hle2, Nat.sub_mul]
 refine ⟨⟨_, hus⟩, w, ?_, hw.turn hk (World.grownBy.refl w _) ⟨?_, .inr ⟨g, c, cur, rfl, hb, hgg, hc, hmx, hsz, hsplit⟩⟩ (fun g' hg' => .inl hg') (fun _ _ e => by cases e)⟩
 ·unfold execOp; rw [ho]
  have hcut := cut_hi (P := P) (k := q) ht hs (some ⟨g, 0, none⟩) n c hi rfl hc w
  simp only [Option.map_some, Option.map_none, ha.eval hx, ha.eval hy, hcut, Sem.run_bind, Result.andThen_ok, Sem.run_pure]
 ·rw [← hsplit, List.length_take, Array.length_toList, Nat.min_eq_left hle2]
theorem gives_externI {f : FuncId} {fn : Func} {xs : List Operand} {ts : Array TypeId} {vs : List Value} {e : Array Value → Sem Value} {v : Value} {I : World → Prop} (ho : o.op = .call { callee := .value (.func f), args := xs.toArray, argTypes := ts }) (hx : evs E xs = some vs)
  (hf : P.funcs[f]? = some fn) (hname : (fn.name == "runtime.NumGoroutine") = false) (hb : fn.body.isNone = true) (hn : Extern.findNext fn = none) (he : Extern.find fn = some e) (hv : ∀ w : World, I w → (e vs.toArray).run P w = .ok v w) : Gives P N o E I v := fun a w ha hw => by
 unfold execOp; rw [ho]
 have harr : xs.toArray.map a.eval = vs.toArray := by rw [List.map_toArray, ha.evals hx]
 have hfn : a.eval (.func f) = .func (.func f) #[] #[] := rfl
 simp only [resolve, harr, hfn, Deferred.ofValue]
 simp [invoke, run_callFunc_extern hf hname hb hn he, hv w hw, go_sem]
theorem oth_at {w w1 : World} {g k : Nat} {L : List Pc} {ob : Obj} (h : Pm ⟨wbut w g, g⟩ L w1) (hs : ∀ q ∈ oths g w, q ∈ L) (hne : k ≠ g) (hk : w.heap[k]? = some ob) : w1.heap[k]? = some ob :=
 ((h.mapEnd hs).block k (Array.getElem?_eq_some_iff.1 hk).1 (fun e => hne (by cases e; rfl))).trans hk
theorem RwG.plain {e : TypeId} {size : Nat} {w : World} {g n c : Nat} {xs : List Value} (h : RwG e size w g n c xs) : ∃ cur : Array Value, w.heap[g]? = some (.cells cur e (0, 0)) ∧ cur.size = c * size ∧ cur.toList.take (n * size) = xs := by
 rcases h.2 with ⟨e1, _⟩ | ⟨g', cap, cur, a1, hb, hgg, hnc, hmx, hsz, htk⟩
 ·cases e1
 ·cases a1
  exact ⟨cur, hgg, hsz, htk⟩
theorem plain_shape {w : World} {g : Nat} {cur : Array Value} {e : TypeId} (h : w.heap[g]? = some (.cells cur e (0, 0))) : w.shape? g = some (e, cur.size) ∧ ∀ o, w.frozen? ⟨g, o, none⟩ = false := by
 constructor
 ·unfold World.shape?; rw [h]
 ·intro o
  unfold World.frozen?
  show (match w.heap[g]? with | some (.cells _ _ (lo, hi)) => lo ≤ o && o < hi | _ => false) = false
  rw [h]
  simp
theorem plain_cell {w : World} {g : Nat} {cur : Array Value} {e : TypeId} {n : Nat} {xs : List Value} (h : w.heap[g]? = some (.cells cur e (0, 0))) (ht : cur.toList.take n = xs) (j : Nat) (v : Value) (hj : xs[j]? = some v) : w.cell? ((⟨g, 0, none⟩ : Addr).add j) = some v := by
 have e1 : (⟨g, 0, none⟩ : Addr).add j = ⟨g, j, none⟩ := by unfold Addr.add; split <;> simp_all
 rw [e1, World.cell?, h]
 simp only [← Array.getElem?_toList]
 rw [← ht, List.getElem?_take] at hj
 split at hj
 ·exact hj
 ·cases hj
theorem gives_tailS {t : TypeId} {size : Nat} {x lo : Operand} {I : World → Prop} {g n c k : Nat} {q : IntKind} {z : Int} (ho : o.op = .slice t x (some lo) none none) (hx : ev E x = some (.slice (some ⟨g, 0, none⟩) n c)) (hl : ev E lo = some (.int q z)) (hz : z = (k : Int)) (ht : P.underlying t = some (.slice (P.elem t))) (hs : ∀ w : World, (sizeOf (P.elem t)).run P w = .ok size w) (hk : k < c) (hn : k ≤ n) :
  Gives P N o E I (.slice (some ⟨g, k * size, none⟩) (n - k) (c - k)) := gives_sliceL ho hx hl fun w => by
 have h := cut_lo (P := P) ht hs (some ⟨g, 0, none⟩) n c k (k := q) hz hn w
 rw [if_neg (by omega), Option.map_some] at h
 have : (⟨g, 0, none⟩ : Addr).add (k * size) = ⟨g, k * size, none⟩ := by unfold Addr.add; split <;> simp_all
 rwa [this] at h
theorem key_new {w w1 : World} {g g' : Nat} {L : List Pc} {p : Pc} (h : Pm ⟨wbut w g, g⟩ (p :: L) w1) (hs : ∀ q ∈ oths g w, q ∈ L) (hp : p.key = some g') : g' = g ∨ w.heap.size ≤ g' := by
 have h1 : g ≤ g' := (Pc.lt (h.own p List.mem_cons_self) g' hp).1
 rcases Nat.eq_or_lt_of_le h1 with e | h2
 ·exact .inl e.symm
 ·rcases Nat.lt_or_ge g' w.heap.size with h3 | h3
  ·obtain ⟨o, _, hm⟩ := oths_mem h2 h3
   exact absurd rfl ((List.pairwise_cons.1 h.apart).1 _ (hs _ hm) g' hp)
  ·exact .inr h3
theorem TL.pcallGrow {d k n c M : Nat} {A : Option Addr} {e : TypeId} {size : Nat} {xs ys : List Value} {f : FuncId} {fn : Func} {es : List Operand} {ts : Array TypeId} {vs : List Value} (hg : o.guard = none) (hd : o.dst = some d) (hN : Nat.blt d N.n = true)
  (ho : o.op = .call { callee := .value (.func f), args := es.toArray, argTypes := ts }) (hx : evs E es = some vs) (hf : P.funcs[f]? = some fn) (hn : (fn.name == "runtime.NumGoroutine") = false) (hb : fn.body.isNone = false)
  (hk : L[k]? = some (.row (.slice A n c) e size n xs)) (hc : ∀ w, Pm w0 L w → w.ownsRow w0.b e size (.slice A n c) n xs → Calls P f vs.toArray w fun en w' => ∃ y : {p : Option Addr × Nat // M ≤ p.2 ∧ p.2 ≤ maxLen}, en = .returned (.slice y.1.1 M y.1.2) ∧ w'.ownsRow w0.b e size (.slice y.1.1 M y.1.2) M ys ∧ w.grownBy w' (Value.slice A n c).ownBlock ∧ ∀ g', (Value.slice y.1.1 M y.1.2).ownBlock = some g' → (Value.slice A n c).ownBlock = some g' ∨ w.heap.size ≤ g')
  (h : ∀ A' c', M ≤ c' → c' ≤ maxLen → TL P N ops Q l ((d, .slice A' M c') :: E) (Pm w0 (L.set k (.row (.slice A' M c') e size M ys)))) : TL P N ops Q (o :: l) E (Pm w0 L) :=
 TL.call (α := {p : Option Addr × Nat // M ≤ p.2 ∧ p.2 ≤ maxLen}) (r := fun y => .slice y.1.1 M y.1.2) (I' := fun y => Pm w0 (L.set k (.row (.slice y.1.1 M y.1.2) e size M ys))) hg hd hN ho hx hf hn hb (fun w hw => (hc w hw (hw.at_ hk)).mono fun en w' ⟨y, he, hr, hgr, hkey⟩ => ⟨y, he,
  hw.turn hk hgr hr hkey (fun _ _ e => by cases e)⟩) (fun y => h y.1.1 y.1.2 y.2.1 y.2.2)
theorem RwG.far {e : TypeId} {size : Nat} {w w1 : World} {g k n c : Nat} {L : List Pc} {xs : List Value} (h : Pm ⟨wbut w g, g⟩ L w1) (hs : ∀ q ∈ oths g w, q ∈ L) (hne : k ≠ g) (hv : RwG e size w k n c xs) : RwG e size w1 k n c xs := by
 refine ⟨hv.1, ?_⟩
 rcases hv.2 with ⟨e1, _⟩ | ⟨g', cap, cur, a1, hb, hgg, r⟩
 ·cases e1
 ·cases a1
  exact .inr ⟨k, c, cur, rfl, hb, oth_at h hs hne hgg, r⟩
end
end Go.Proofs.Ytleckflmckbheaa

namespace Go.Proofs.Ytleckflmckbheaa
open Go.RowKit
set_option maxRecDepth 20000
theorem RwG.far0 {e : TypeId} {size : Nat} {w w1 : World} {k n c : Nat} {L : List Pc} {xs : List Value} (h : Pm w L w1) (hv : RwG e size w k n c xs) : RwG e size w1 k n c xs := by
 refine ⟨hv.1, ?_⟩
 rcases hv.2 with ⟨e1, _⟩ | ⟨g', cap, cur, a1, hb, hgg, r⟩
 ·cases e1
 ·cases a1
  exact .inr ⟨k, c, cur, rfl, hb, (h.bel.block k (Array.getElem?_eq_some_iff.1 hgg).1).trans hgg, r⟩
theorem app_nil_of {A B : List Value} (h : B = []) : A ++ B = A := by rw [h, List.append_nil]
theorem ins_take (l : List Fc) {i : Nat} (hi : i ≤ l.length) : (fcs (l.take i)).length = i * 3 := by rw [fcs_len, List.length_take, Nat.min_eq_left hi]
theorem ins_fin (l : List Fc) (x : Fc) (i : Nat) : fcs (l.take i ++ x :: l.drop i) = fcs (l.take i) ++ x.cells ++ fcs (l.drop i) := by
 rw [fcs_app, List.append_assoc]
 rfl
theorem ins_b1 (l : List Fc) (x : Fc) {i : Nat} (hi : i ≤ l.length) (zs : List Value) : (fcs (l.take i) ++ zs).take (i * 3) ++ x.cells ++ (fcs (l.take i) ++ zs).drop (i * 3 + x.cells.length) = fcs (l.take i) ++ x.cells ++ zs.drop 3 := by
 have h1 := ins_take l hi
 rw [List.take_left' h1, List.drop_append, fc_cells_len, h1, List.drop_eq_nil_of_le (by omega), List.nil_append, show i * 3 + 3 - i * 3 = 3 by omega]
theorem ins_b2 (l : List Fc) (x : Fc) {i : Nat} (hi : i ≤ l.length) (zs : List Value) (hz : zs.length = (l.length + 1 - i) * 3) : (fcs (l.take i) ++ x.cells ++ zs.drop 3).take ((i + 1) * 3) ++ fcs (l.drop i) ++ (fcs (l.take i) ++ x.cells ++ zs.drop 3).drop ((i + 1) * 3 + (fcs (l.drop i)).length) = fcs (l.take i ++ x :: l.drop i) := by
 have h1 := ins_take l hi
 have h2 : (fcs (l.take i) ++ x.cells).length = (i + 1) * 3 := by rw [List.length_append, h1, fc_cells_len]; omega
 refine (app_nil_of (List.drop_eq_nil_of_le (by rw [List.length_append, h2, List.length_drop, hz, fcs_len, List.length_drop]; omega))).trans ?_
 rw [List.take_left' h2, ins_fin]
theorem ins_c1 (l : List Fc) {i : Nat} (hi : i < l.length) (us : List Value) (hu : us.length = 3) : (fcs l ++ us).take ((i + 1) * 3) ++ fcs (l.drop i) ++ (fcs l ++ us).drop ((i + 1) * 3 + (fcs (l.drop i)).length) = (fcs l ++ us).take ((i + 1) * 3) ++ fcs (l.drop i) := by
 exact app_nil_of (List.drop_eq_nil_of_le (by rw [List.length_append, fcs_len, fcs_len, List.length_drop, hu]; omega))
theorem ins_c2 (l : List Fc) (x : Fc) {i : Nat} (hi : i < l.length) (us : List Value) (hu : us.length = 3) : ((fcs l ++ us).take ((i + 1) * 3) ++ fcs (l.drop i)).take (i * 3) ++ x.cells ++ ((fcs l ++ us).take ((i + 1) * 3) ++ fcs (l.drop i)).drop (i * 3 + x.cells.length) = fcs (l.take i ++ x :: l.drop i) := by
 have h2 : ((fcs l ++ us).take ((i + 1) * 3)).length = (i + 1) * 3 := by rw [List.length_take, List.length_append, fcs_len, hu]; omega
 rw [show i * 3 + x.cells.length = (i + 1) * 3 by rw [fc_cells_len]; omega, List.drop_left' h2, List.take_append_of_le_length (by omega), List.take_take, Nat.min_eq_left (by omega), List.take_append_of_le_length (by rw [fcs_len]; omega), fcs_take, ins_fin]
theorem uinsz42 (w : World) : (sizeOf 42).run Try.prog w = .ok 3 w := rfl
theorem uinel26 : Elem Try.prog 26 42 3 16 := Elem.mk' Try.underlying26 (z := .agg #[.int .i64 0, .int .u32 0, .int .u32 0]) (by kernel_rfl) rfl (by omega) (by omega)
set_option maxHeartbeats 1000000 in
theorem insf_some (g c i vb vc : Nat) (l : List Fc) (x : Fc) (w : World) (h : RwG 42 3 w g l.length c (fcs l)) (hv : RwG 42 3 w vb 1 vc x.cells) (hne : vb ≠ g) (hi : i ≤ l.length) (hl1 : l.length ≤ 100000) : Calls Try.prog 48 #[.slice (some ⟨g, 0, none⟩) l.length c, .int .i64 ((i : Nat) : Int), .slice (some ⟨vb, 0, none⟩) 1 vc] w fun e w' => ∃ y : {p : Option Addr × Nat // l.length + 1 ≤ p.2 ∧ p.2 ≤ maxLen}, e = .returned (.slice y.1.1 (l.length + 1) y.1.2) ∧ w'.ownsRow g 42 3 (.slice y.1.1 (l.length + 1) y.1.2) (l.length + 1) (fcs (l.take i ++ x :: l.drop i)) ∧ w.grownBy w' (some g) ∧ ∀ g', (Value.slice y.1.1 (l.length + 1) y.1.2).ownBlock = some g' → g' = g ∨ w.heap.size ≤ g' := by
 obtain ⟨_, hnc, hcm⟩ := h.obj
 refine begin_ (vs := [.slice (some ⟨g, 0, none⟩) l.length c, .int .i64 ((i : Nat) : Int), .slice (some ⟨vb, 0, none⟩) 1 vc]) (I := Pm ⟨wbut w g, g⟩ (.row (.slice (some ⟨g, 0, none⟩) l.length c) 42 3 l.length (fcs l) :: oths g w)) Try.func48 rfl rfl rfl ?_ (Pm.rowStartG h)
 refine TC.seq_ (TC.region ?_)
 refine TL.as_ ?_
 refine TL.end_ (TX.then_ (TC.seq_ (TC.region ?_)))
 refine TL.mv ?_
 refine TL.mv ?_
 refine TL.val rfl rfl rfl (gives_sliceL (v := .slice (if c = i then (some ⟨g, 0, none⟩ : Option Addr) else (some ⟨g, 0, none⟩ : Option Addr).map (·.add (i * 3))) (l.length - i) (c - i)) rfl rfl rfl (fun w => cut_lo Try.underlying26 uinsz42 _ _ _ i rfl hi w)) ?_
 refine TL.end_ (TX.then_ (TC.seq_ (TC.region ?_)))
 refine TL.mv ?_
 refine TL.val rfl rfl rfl (gives_len rfl Try.underlying26 rfl) ?_
 refine TL.as_ ?_
 refine TL.end_ (TX.then_ (TC.seq_ (TC.seq_ (TC.region ?_))))
 refine TL.mv ?_
 refine TL.val rfl rfl rfl (gives_bin rfl rfl rfl (fun w => bin_eql_f (by omega) w)) ?_
 refine TL.end_ (TX.then_ (TC.condF rfl (TC.skip_ (TX.then_ (TC.seq_ (TC.region ?_))))))
 refine TL.mv ?_
 refine TL.val rfl rfl rfl (gives_len rfl Try.underlying26 rfl) ?_
 refine TL.as_ ?_
 refine TL.end_ (TX.then_ (TC.seq_ (TC.seq_ (TC.region ?_))))
 refine TL.mv ?_
 refine TL.mv ?_
 refine TL.vsplit rfl rfl rfl (gives_bin rfl rfl rfl (fun w => bin_eql w)) (fun h22 => ?_) (fun h22 => ?_)
 ·have q22 := of_decide_eq_true h22
  have hin : i = l.length := by omega
  refine TL.end_ (TX.then_ (TC.condT rfl (TC.seq_ (TC.region ?_))))
  refine TL.mv ?_
  refine TL.mv ?_
  refine TL.appendT (k := 0) rfl rfl rfl rfl Try.underlying26 uinel26 rfl rfl rfl (fun w1 hw => ⟨_, Reads.of_own (RwG.far hw (fun q hq => by simp [hq]) hne hv)⟩) (fc_one x) (by show _ * 16 ≤ _; omega) (l.length + 1) (rfl) (fcs (l.take i ++ x :: l.drop i)) (by rw [hin, List.take_length, List.drop_length, fcs_app]; rfl) (fun A25 c25 hA251 hA252 => ?_)
  refine TL.as_ ?_
  refine TL.end_ (TX.then_ (TC.ret_ (TX.then_ret ?_)))
  exact ret_tmp Try.results48 rfl (fun w1 hw => ⟨⟨(A25, c25), hA251, hA252⟩, rfl, hw.at_ (k := 0) rfl, hw.mapEnd (fun q hq => by simp [hq]), fun g' hg' => key_new hw (fun q hq => by simp [hq]) hg'⟩)
 ·have q22 := of_decide_eq_false h22
  have hil : i < l.length := by omega
  refine TL.end_ (TX.then_ (TC.condF rfl (TC.skip_ (TX.then_ (TC.seq_ (TC.seq_ (TC.region ?_)))))))
  refine TL.mv ?_
  refine TL.mv ?_
  refine TL.val rfl rfl rfl (gives_bin rfl rfl rfl (fun w => bin_add_ (r := ((l.length + 1 : Nat) : Int)) (by simp only [IntKind.wrap_i64]; omega) w)) ?_
  refine TL.mv ?_
  refine TL.val rfl rfl rfl (gives_cap rfl Try.underlying26 rfl) ?_
  refine TL.vsplit rfl rfl rfl (gives_bin rfl rfl rfl (fun w => bin_gtr w)) (fun h31 => ?_) (fun h31 => ?_)
  ·have q31 := of_decide_eq_true h31
   have hgrow : c < l.length + 1 := by omega
   refine TL.end_ (TX.then_ (TC.condT rfl (TC.seq_ (TC.region ?_))))
   refine TL.mv ?_
   refine TL.mv ?_
   refine TL.val rfl rfl rfl (gives_sliceH (v := .slice (some ⟨g, 0, none⟩) i c) rfl rfl rfl (fun w => cut_hi Try.underlying26 uinsz42 _ _ _ i rfl (by omega) w)) ?_
   refine TL.mv ?_
   refine TL.mv ?_
   refine TL.val rfl rfl rfl (gives_bin rfl rfl rfl (fun w => bin_add_ (r := ((l.length + 1 : Nat) : Int)) (by simp only [IntKind.wrap_i64]; omega) w)) ?_
   refine TL.mv ?_
   refine TL.val rfl rfl rfl (gives_bin rfl rfl rfl (fun w => bin_sub_ (r := ((l.length + 1 - i : Nat) : Int)) (by simp only [IntKind.wrap_i64]; omega) w)) ?_
   obtain ⟨zs, hzs⟩ : ∃ zs, (Builtin.zeroCells (Value.agg #[.int .i64 0, .int .u32 0, .int .u32 0]).cells (l.length + 1 - i)).toList = zs := ⟨_, rfl⟩
   have hzl : zs.length = (l.length + 1 - i) * 3 := by rw [← hzs, Array.length_toList, size_zeroCells]; rfl
   refine TL.zerosGrow (k := 0) (i := i) (m := l.length + 1 - i) (M := l.length + 1) (z := .agg #[.int .i64 0, .int .u32 0, .int .u32 0]) rfl rfl rfl rfl uinel26 Try.underlying3 rfl rfl rfl hi (by omega) (by omega) (by kernel_rfl) hzs (by show _ * 16 ≤ _; omega) (by omega) (fcs_take l i) (fun g9 c9 hc91 hc92 => ?_)
   refine TL.as_ ?_
   refine TL.end_ (TX.then_ (TC.seq_ (TC.region ?_)))
   refine TL.mv ?_
   refine TL.mv ?_
   refine TL.val rfl rfl rfl (gives_tailS (k := i) rfl rfl rfl (by omega) Try.underlying26 uinsz42 (by omega) (by omega)) ?_
   refine TL.mv ?_
   refine TL.copyRow (k := 0) (cs := x.cells) (m := 1) (xs' := fcs (l.take i) ++ x.cells ++ zs.drop 3) rfl rfl rfl rfl Try.underlying26 uinsz42 rfl rfl rfl (fun w1 hw => by obtain ⟨cu, hcu, _, hct⟩ := (RwG.far hw (fun q hq => by simp [hq]) hne hv).plain; exact plain_cell hcu hct) (by simp only [Nat.min_def]; split <;> omega) rfl (by rw [List.length_append, fcs_len, List.length_take, hzl, fc_cells_len]; omega) (fc_one x) (ins_b1 l x hi zs) ?_
   try dsimp only [List.set_cons_zero, List.set_cons_succ]
   refine TL.end_ (TX.then_ (TC.seq_ ?_))
   refine TC.tail 8 (by kernel_rfl) (by kernel_rfl) (fun w hw => hw.drawn _) ?_
   refine TS.val rfl rfl rfl (gives_move rfl rfl) ?_
   refine TS.val rfl rfl rfl (gives_move rfl rfl) ?_
   refine TS.val rfl rfl rfl (gives_move rfl rfl) ?_
   refine TS.val rfl rfl rfl (gives_bin rfl rfl rfl (fun w => bin_add_ (r := ((i + 1 : Nat) : Int)) (by simp only [IntKind.wrap_i64]; omega) w)) ?_
   refine TS.val rfl rfl rfl (gives_tailS (k := i + 1) rfl rfl rfl (by omega) Try.underlying26 uinsz42 (by omega) (by omega)) ?_
   refine TS.val rfl rfl rfl (gives_move rfl rfl) ?_
   refine TS.val rfl rfl rfl (gives_move rfl rfl) ?_
   refine TS.val rfl rfl rfl (gives_tailS (k := i) rfl rfl rfl (by omega) Try.underlying26 uinsz42 (by omega) (by omega)) ?_
   refine TS.end_ ?_
   refine TL.copyRow (k := 0) (cs := fcs (l.drop i)) (m := l.length - i) (xs' := fcs (l.take i ++ x :: l.drop i)) rfl rfl rfl rfl Try.underlying26 uinsz42 rfl rfl rfl (fun w1 hw j v hj => by rw [show (⟨g, i * 3, none⟩ : Addr).add j = ⟨g, i * 3 + j, none⟩ by unfold Addr.add; split <;> simp_all]; exact pm_row hw (k := 1) rfl (by rw [← fcs_drop, List.getElem?_drop] at hj; exact hj)) (by simp only [Nat.min_def]; split <;> omega) (by rw [fcs_len, List.length_drop]) (by rw [List.length_append, List.length_append, fcs_len, fcs_len, List.length_take, List.length_drop, List.length_drop, hzl, fc_cells_len]; omega) (fcs_one _) (ins_b2 l x hi zs hzl) ?_
   try dsimp only [List.set_cons_zero, List.set_cons_succ]
   refine TL.end_ (TX.then_ (TC.seq_ (TC.region ?_)))
   refine TL.mv ?_
   refine TL.as_ ?_
   refine TL.end_ (TX.then_ (TC.ret_ (TX.then_ret ?_)))
   exact ret_tmp Try.results48 rfl (fun w1 hw => ⟨⟨((some ⟨g9, 0, none⟩), c9), hc91, hc92⟩, rfl, hw.at_ (k := 0) rfl, hw.mapEnd (fun q hq => by simp [hq]), fun g' hg' => key_new hw (fun q hq => by simp [hq]) hg'⟩)
  ·have q31 := of_decide_eq_false h31
   have hroom : l.length + 1 ≤ c := by omega
   refine TL.end_ (TX.then_ (TC.condF rfl (TC.skip_ (TX.then_ (TC.seq_ (TC.region ?_))))))
   refine TL.mv ?_
   refine TL.mv ?_
   refine TL.mv ?_
   refine TL.val rfl rfl rfl (gives_bin rfl rfl rfl (fun w => bin_add_ (r := ((l.length + 1 : Nat) : Int)) (by simp only [IntKind.wrap_i64]; omega) w)) ?_
   refine TL.rowgrow (k := 0) (hi := l.length + 1) rfl rfl rfl rfl rfl rfl Try.underlying26 uinsz42 rfl (by omega) (by omega) (fun us hus => ?_)
   have hul : us.length = 3 := by rw [hus]; omega
   try dsimp only [List.set_cons_zero]
   refine TL.as_ ?_
   refine TL.end_ (TX.then_ (TC.seq_ (TC.seq_ (TC.region ?_))))
   iterate 4 (first | refine TL.mv ?_)
   refine TL.val rfl rfl rfl (gives_bin rfl rfl rfl (fun w => bin_add_ (r := ((i + 1 : Nat) : Int)) (by simp only [IntKind.wrap_i64]; omega) w)) ?_
   refine TL.val rfl rfl rfl (gives_tailS (k := i + 1) rfl rfl rfl (by omega) Try.underlying26 uinsz42 (by omega) (by omega)) ?_
   refine TL.val rfl rfl rfl (gives_externI (v := .bool false) (e := Extern.SlicesOverlaps.overlaps #[26, 26] #[4]) rfl rfl Try.func56 (by kernel_rfl) (by kernel_rfl) (by kernel_rfl) (by kernel_rfl) (fun w1 hw => by obtain ⟨cg, hcg, hcs, _⟩ := (pm_rowAtG hw (k := 0) rfl).plain; obtain ⟨cv, hcv, hcvs, _⟩ := (RwG.far hw (fun q hq => by simp [hq]) hne hv).plain; have hp := plain_shape hcv; have hq := plain_shape hcg; exact Lib.run_overlaps_apart w1 _ _ _ Try.underlying26 3 uinsz42 ⟨vb, 0, none⟩ ⟨g, (i + 1) * 3, none⟩ _ _ _ _ hne _ _ _ _ hp.1 hq.1 (by rw [hcs]; omega) (hp.2 0) (hp.2 _))) ?_
   refine TL.val rfl rfl rfl (gives_boolnot rfl rfl) ?_
   refine TL.end_ (TX.then_ (TC.condT rfl (TC.seq_ ?_)))
   refine TC.tail 8 (by kernel_rfl) (by kernel_rfl) (fun w hw => hw.drawn _) ?_
   refine TS.val rfl rfl rfl (gives_move rfl rfl) ?_
   refine TS.val rfl rfl rfl (gives_move rfl rfl) ?_
   refine TS.val rfl rfl rfl (gives_move rfl rfl) ?_
   refine TS.val rfl rfl rfl (gives_bin rfl rfl rfl (fun w => bin_add_ (r := ((i + 1 : Nat) : Int)) (by simp only [IntKind.wrap_i64]; omega) w)) ?_
   refine TS.val rfl rfl rfl (gives_tailS (k := i + 1) rfl rfl rfl (by omega) Try.underlying26 uinsz42 (by omega) (by omega)) ?_
   refine TS.val rfl rfl rfl (gives_move rfl rfl) ?_
   refine TS.val rfl rfl rfl (gives_move rfl rfl) ?_
   refine TS.val rfl rfl rfl (gives_tailS (k := i) rfl rfl rfl (by omega) Try.underlying26 uinsz42 (by omega) (by omega)) ?_
   refine TS.end_ ?_
   refine TL.copyRow (k := 0) (cs := fcs (l.drop i)) (m := l.length - i) (xs' := (fcs l ++ us).take ((i + 1) * 3) ++ fcs (l.drop i)) rfl rfl rfl rfl Try.underlying26 uinsz42 rfl rfl rfl (fun w1 hw j v hj => by rw [show (⟨g, i * 3, none⟩ : Addr).add j = ⟨g, i * 3 + j, none⟩ by unfold Addr.add; split <;> simp_all]; exact pm_row hw (k := 0) rfl (by rw [← fcs_drop, List.getElem?_drop] at hj; exact (List.getElem?_append_left (List.getElem?_eq_some_iff.1 hj).1).trans hj)) (by simp only [Nat.min_def]; split <;> omega) (by rw [fcs_len, List.length_drop]) (by rw [List.length_append, fcs_len, fcs_len, List.length_drop, hul]; omega) (fcs_one _) (ins_c1 l hil us hul) ?_
   try dsimp only [List.set_cons_zero, List.set_cons_succ]
   refine TL.end_ (TX.then_ (TC.seq_ (TC.region ?_)))
   refine TL.mv ?_
   refine TL.mv ?_
   refine TL.val rfl rfl rfl (gives_tailS (k := i) rfl rfl rfl (by omega) Try.underlying26 uinsz42 (by omega) (by omega)) ?_
   refine TL.mv ?_
   refine TL.copyRow (k := 0) (cs := x.cells) (m := 1) (xs' := fcs (l.take i ++ x :: l.drop i)) rfl rfl rfl rfl Try.underlying26 uinsz42 rfl rfl rfl (fun w1 hw => by obtain ⟨cu, hcu, _, hct⟩ := (RwG.far hw (fun q hq => by simp [hq]) hne hv).plain; exact plain_cell hcu hct) (by simp only [Nat.min_def]; split <;> omega) rfl (by rw [List.length_append, List.length_take, List.length_append, fcs_len, fcs_len, List.length_drop, hul, fc_cells_len]; omega) (fc_one x) (ins_c2 l x hil us hul) ?_
   try dsimp only [List.set_cons_zero, List.set_cons_succ]
   refine TL.end_ (TX.then_ (TC.seq_ (TC.region ?_)))
   refine TL.mv ?_
   refine TL.as_ ?_
   refine TL.end_ (TX.then_ (TC.ret_ (TX.then_ret ?_)))
   exact ret_tmp Try.results48 rfl (fun w1 hw => ⟨⟨((some ⟨g, 0, none⟩), c), by omega, hcm⟩, rfl, hw.at_ (k := 0) rfl, hw.mapEnd (fun q hq => by simp [hq]), fun g' hg' => key_new hw (fun q hq => by simp [hq]) hg'⟩)
set_option maxHeartbeats 1000000 in
theorem insf_nil (vb vc : Nat) (x : Fc) (w : World) (hv : RwG 42 3 w vb 1 vc x.cells) : Calls Try.prog 48 #[.slice none 0 0, .int .i64 0, .slice (some ⟨vb, 0, none⟩) 1 vc] w fun e w' => ∃ y : {p : Option Addr × Nat // 1 ≤ p.2 ∧ p.2 ≤ maxLen}, e = .returned (.slice y.1.1 1 y.1.2) ∧ Pm w [.row (.slice y.1.1 1 y.1.2) 42 3 1 x.cells] w' := by
 refine begin_ (vs := [.slice none 0 0, .int .i64 0, .slice (some ⟨vb, 0, none⟩) 1 vc]) Try.func48 rfl rfl rfl ?_ (Pm.start w)
 refine TC.seq_ (TC.region ?_)
 refine TL.as_ ?_
 refine TL.end_ (TX.then_ (TC.seq_ (TC.region ?_)))
 refine TL.mv ?_
 refine TL.mv ?_
 refine TL.val rfl rfl rfl (gives_sliceL (v := .slice none 0 0) rfl rfl rfl (fun w => (cut_lo (a := 0) Try.underlying26 uinsz42 none 0 0 0 rfl (Nat.le_refl 0) w).trans rfl)) ?_
 refine TL.end_ (TX.then_ (TC.seq_ (TC.region ?_)))
 refine TL.mv ?_
 refine TL.val rfl rfl rfl (gives_len rfl Try.underlying26 rfl) ?_
 refine TL.as_ ?_
 refine TL.end_ (TX.then_ (TC.seq_ (TC.seq_ (TC.region ?_))))
 refine TL.mv ?_
 refine TL.val rfl rfl rfl (gives_bin rfl rfl rfl (fun w => bin_eql_f (by omega) w)) ?_
 refine TL.end_ (TX.then_ (TC.condF rfl (TC.skip_ (TX.then_ (TC.seq_ (TC.region ?_))))))
 refine TL.mv ?_
 refine TL.val rfl rfl rfl (gives_len rfl Try.underlying26 rfl) ?_
 refine TL.as_ ?_
 refine TL.end_ (TX.then_ (TC.seq_ (TC.seq_ (TC.region ?_))))
 refine TL.mv ?_
 refine TL.mv ?_
 refine TL.val rfl rfl rfl (gives_bin rfl rfl rfl (fun w => bin_eql_t (rfl) w)) ?_
 refine TL.end_ (TX.then_ (TC.condT rfl (TC.seq_ (TC.region ?_))))
 refine TL.mv ?_
 refine TL.mv ?_
 refine TL.nilrow 42 3 ?_
 refine TL.appendT (k := 0) rfl rfl rfl rfl Try.underlying26 uinel26 rfl rfl rfl (fun w1 hw => ⟨_, Reads.of_own (RwG.far0 hw hv)⟩) (fc_one x) (by show _ * 16 ≤ _; omega) (1) (rfl) (x.cells) (rfl) (fun A25 c25 hA251 hA252 => ?_)
 refine TL.as_ ?_
 refine TL.end_ (TX.then_ (TC.ret_ (TX.then_ret ?_)))
 exact ret_tmp Try.results48 rfl (fun w1 hw => ⟨⟨(A25, c25), hA251, hA252⟩, rfl, hw⟩)
theorem insf_any (B : Nat) (A : Option Addr) (c i vb vc : Nat) (l : List Fc) (x : Fc) (w : World) (h : w.ownsRow B 42 3 (.slice A l.length c) l.length (fcs l)) (hB : B ≤ w.heap.size) (hv : RwG 42 3 w vb 1 vc x.cells) (hne : ∀ g, A = some ⟨g, 0, none⟩ → vb ≠ g) (hi : i ≤ l.length) (hl1 : l.length ≤ 100000) :
  Calls Try.prog 48 #[.slice A l.length c, .int .i64 ((i : Nat) : Int), .slice (some ⟨vb, 0, none⟩) 1 vc] w fun e w' => ∃ y : {p : Option Addr × Nat // l.length + 1 ≤ p.2 ∧ p.2 ≤ maxLen}, e = .returned (.slice y.1.1 (l.length + 1) y.1.2) ∧ w'.ownsRow B 42 3 (.slice y.1.1 (l.length + 1) y.1.2) (l.length + 1) (fcs (l.take i ++ x :: l.drop i)) ∧ w.grownBy w' (Value.slice A l.length c).ownBlock ∧ ∀ g', (Value.slice y.1.1 (l.length + 1) y.1.2).ownBlock = some g' → (Value.slice A l.length c).ownBlock = some g' ∨ w.heap.size ≤ g' := by
 rcases h.2 with ⟨e1, h2⟩ | ⟨g, cap, cur, a1, hb, hgg, r⟩
 ·injection e1 with e1 e2 e3
  subst e1 e3
  have h0 : l = [] := List.eq_nil_of_length_eq_zero e2
  subst h0
  have hi0 : i = 0 := by simpa using hi
  subst hi0
  refine (insf_nil vb vc x w hv).mono fun e w1 ⟨y, he, hp⟩ => ⟨y, he, ?_, ?_, fun g' hg' => .inr ?_⟩
  ·exact own_base (hp.at_ (k := 0) rfl) hB
  ·exact ⟨hp.bel.os, hp.bel.tape, hp.bel.output, hp.bel.size, fun k hk _ => hp.bel.block k hk⟩
  ·exact (Pc.lt (hp.at_ (k := 0) rfl) g' hg').1
 ·cases a1
  refine (insf_some g c i vb vc l x w ⟨h.1, .inr ⟨g, c, cur, rfl, Nat.le_refl _, hgg, r⟩⟩ hv (hne g rfl) hi hl1).mono fun e w1 ⟨y, he, h1, h2, h3⟩ => ⟨y, he, own_base h1 hb, h2, fun g' hg' => (h3 g' hg').imp (fun e => by rw [e]; rfl) id⟩
end Go.Proofs.Ytleckflmckbheaa

namespace Go.Proofs.Ytleckflmckbheaa
open Go.RowKit
set_option maxRecDepth 20000
def preA (l : List Fc) (x : Fc) : Prop := validF l ∧ 0 ≤ x.id ∧ x.a ≠ x.b
def AddOk (l : List Fc) (x : Fc) (y : List Fc × Int) : Prop :=
 (¬ preA l x ∧ y = ([], 1)) ∨ (preA l x ∧ ((∃ i, ixF l x.id = some i) ∧ y = ([], 9) ∨ (ixF l x.id = none ∧ l.length = 1024 ∧ y = ([], 5)) ∨ (ixF l x.id = none ∧ l.length ≠ 1024 ∧ y.2 = 0 ∧ ∃ i, Lb l x.id i ∧ y.1 = l.take i ++ x :: l.drop i)))
theorem AddOk.done {l : List Fc} {x : Fc} {r : List Fc} (h : preA l x) (h1 : ixF l x.id = none) (h2 : ¬ ((l.length : Nat) : Int) = 1024) (h3 : ∃ i, Lb l x.id i ∧ r = l.take i ++ x :: l.drop i) : AddOk l x (r, 0) :=
 .inr ⟨h, .inr (.inr ⟨h1, by omega, rfl, h3⟩)⟩
theorem uadnm22 : (Try.f22.name == "runtime.NumGoroutine") = false := by decide
theorem uadbd22 : Try.f22.body.isNone = false := rfl
theorem uadfld42_0 (g o : Nat) (w : World) : (Instr.fieldAt 42 (.pointer (some ⟨g, o, none⟩)) 0).run Try.prog w = .ok (.pointer (some ⟨g, o + 0, none⟩)) w := by kernel_rfl
theorem uadag3 (w : World) : (isAgg 3).run Try.prog w = .ok false w := rfl
theorem uadfld42_1 (g o : Nat) (w : World) : (Instr.fieldAt 42 (.pointer (some ⟨g, o, none⟩)) 1).run Try.prog w = .ok (.pointer (some ⟨g, o + 1, none⟩)) w := by kernel_rfl
theorem uadag35 (w : World) : (isAgg 35).run Try.prog w = .ok false w := rfl
theorem uadfld42_2 (g o : Nat) (w : World) : (Instr.fieldAt 42 (.pointer (some ⟨g, o, none⟩)) 2).run Try.prog w = .ok (.pointer (some ⟨g, o + 2, none⟩)) w := by kernel_rfl
theorem uadnm41 : (Try.f41.name == "runtime.NumGoroutine") = false := by decide
theorem uadbd41 : Try.f41.body.isNone = false := rfl
theorem uadag42 (w : World) : (isAgg 42).run Try.prog w = .ok true w := rfl
theorem uadsz42 (w : World) : (sizeOf 42).run Try.prog w = .ok 3 w := rfl
theorem uadnm43 : (Try.f43.name == "runtime.NumGoroutine") = false := by decide
theorem uadbd43 : Try.f43.body.isNone = false := rfl
theorem uadbs26_1_44646 (a0_0 : Int) (a0_1 : Int) (a0_2 : Int) (w : World) : (Instr.buildSlice 26 1 #[(0, .agg #[.int .i64 a0_0, .int .u32 a0_1, .int .u32 a0_2])]).run Try.prog w = .ok (.slice (some ⟨w.heap.size, 0, none⟩) 1 1) (w.alloc (.cells [.int .i64 a0_0, .int .u32 a0_1, .int .u32 a0_2].toArray 42)) := by kernel_rfl
theorem uadnm48 : (Try.f48.name == "runtime.NumGoroutine") = false := by decide
theorem uadbd48 : Try.f48.body.isNone = false := rfl
set_option maxHeartbeats 1000000 in
theorem add_any (A0 : Option Addr) (n0 c0 : Nat) (l : List Fc) (w : World) (hr : Reads w w.heap.size 3 A0 n0 (fcs l)) (hl : l.length = n0) (x : Fc) :
  Calls Try.prog 30 #[.slice A0 n0 c0, .agg x.cells.toArray] w fun e w' => ∃ y : {y : (Option Addr × Nat) × List Fc × Int // AddOk l x y.2 ∧ y.2.1.length ≤ y.1.2 ∧ y.1.2 ≤ maxLen}, e = .returned (.tuple #[.slice y.1.1.1 y.1.2.1.length y.1.1.2, .int .i64 y.1.2.2]) ∧ Pm w [.row (.slice y.1.1.1 y.1.2.1.length y.1.1.2) 42 3 y.1.2.1.length (fcs y.1.2.1)] w' := by
 subst hl
 refine begin_ (vs := [.slice A0 l.length c0, .agg #[.int .i64 x.id, .int .u32 x.a, .int .u32 x.b]]) Try.func30 rfl rfl rfl ?_ (Pm.start w)
 refine TC.seq_ (TC.region ?_)
 refine TL.pnew rfl rfl rfl (exec_box (cs := [.int .i64 x.id, .int .u32 x.a, .int .u32 x.b]) rfl rfl rfl) (fun g3 => ?_)
 refine TL.as_ ?_
 refine TL.as_ ?_
 refine TL.end_ (TX.then_ (TC.seq_ (TC.seq_ ?_)))
 have hway : ¬ validF l ∨ (validF l ∧ x.id < 0) ∨ (validF l ∧ ¬ x.id < 0 ∧ x.a = x.b) ∨ (validF l ∧ ¬ x.id < 0 ∧ x.a ≠ x.b) := by
  by_cases p1 : validF l <;> by_cases p2 : x.id < 0 <;> by_cases p3 : x.a = x.b <;> simp [p1, p2, p3]
 rcases hway with p1 | ⟨p1, p2⟩ | ⟨p1, p2, p3⟩ | ⟨p1, p2, p3⟩
 ·refine TC.region ?_
  refine TL.mv ?_
  refine TL.pcall1 (r := .bool false) rfl rfl rfl rfl rfl Try.func22 uadnm22 uadbd22 (fun w1 hw => valid_is A0 _ c0 l w1 ((hr.below hw.bel).more hw.bel.size) rfl (decide_eq_false p1)) ?_
  iterate 13 (first | refine TL.of ?_ | refine TL.mv ?_ | refine TL.pk ?_ | refine TL.val rfl rfl rfl (gives_boolnot rfl rfl) ?_)
  refine TL.end_ (TX.then_ (TC.condT rfl (TC.seq_ (TC.region ?_))))
  refine TL.as_ ?_
  refine TL.as_ ?_
  refine TL.end_ (TX.then_ (TC.ret_ (TX.then_ret ?_)))
  exact ret_pair Try.results30 rfl rfl (fun w1 hw => ⟨⟨((none, 0), ([], 1)), .inl ⟨(fun hh => p1 hh.1), rfl⟩, Nat.le_refl _, Nat.zero_le _⟩, rfl, (hw.pick [] (by decide) rfl).nilrow _ _⟩)
 ·refine TC.region ?_
  refine TL.mv ?_
  refine TL.pcall1 (r := .bool true) rfl rfl rfl rfl rfl Try.func22 uadnm22 uadbd22 (fun w1 hw => valid_is A0 _ c0 l w1 ((hr.below hw.bel).more hw.bel.size) rfl (decide_eq_true p1)) ?_
  refine TL.val rfl rfl rfl (gives_boolnot rfl rfl) ?_
  refine TL.mv ?_
  refine TL.gu ?_
  refine TL.val rfl rfl rfl (gives_field (v := .pointer (some ⟨g3, 0, none⟩)) rfl rfl (fun w => uadfld42_0 _ _ w)) ?_
  refine TL.gu ?_
  refine TL.val rfl rfl rfl (pm_load (k := 0) (i := 0) rfl rfl uadag3 rfl rfl) ?_
  refine TL.gu ?_
  refine TL.val rfl rfl rfl (gives_bin rfl rfl rfl (fun w => bin_lss_t (p2) w)) ?_
  iterate 8 (first | refine TL.of ?_ | refine TL.pk ?_ | refine TL.mv ?_)
  refine TL.end_ (TX.then_ (TC.condT rfl (TC.seq_ (TC.region ?_))))
  refine TL.as_ ?_
  refine TL.as_ ?_
  refine TL.end_ (TX.then_ (TC.ret_ (TX.then_ret ?_)))
  exact ret_pair Try.results30 rfl rfl (fun w1 hw => ⟨⟨((none, 0), ([], 1)), .inl ⟨(fun hh => by have := hh.2.1; omega), rfl⟩, Nat.le_refl _, Nat.zero_le _⟩, rfl, (hw.pick [] (by decide) rfl).nilrow _ _⟩)
 ·refine TC.region ?_
  refine TL.mv ?_
  refine TL.pcall1 (r := .bool true) rfl rfl rfl rfl rfl Try.func22 uadnm22 uadbd22 (fun w1 hw => valid_is A0 _ c0 l w1 ((hr.below hw.bel).more hw.bel.size) rfl (decide_eq_true p1)) ?_
  refine TL.val rfl rfl rfl (gives_boolnot rfl rfl) ?_
  refine TL.mv ?_
  refine TL.gu ?_
  refine TL.val rfl rfl rfl (gives_field (v := .pointer (some ⟨g3, 0, none⟩)) rfl rfl (fun w => uadfld42_0 _ _ w)) ?_
  refine TL.gu ?_
  refine TL.val rfl rfl rfl (pm_load (k := 0) (i := 0) rfl rfl uadag3 rfl rfl) ?_
  refine TL.gu ?_
  refine TL.val rfl rfl rfl (gives_bin rfl rfl rfl (fun w => bin_lss_f (p2) w)) ?_
  refine TL.pk ?_
  refine TL.mv ?_
  refine TL.gu ?_
  refine TL.val rfl rfl rfl (gives_field (v := .pointer (some ⟨g3, 1, none⟩)) rfl rfl (fun w => uadfld42_1 _ _ w)) ?_
  refine TL.gu ?_
  refine TL.val rfl rfl rfl (pm_load (k := 0) (i := 1) rfl rfl uadag35 rfl rfl) ?_
  refine TL.gu ?_
  refine TL.val rfl rfl rfl (gives_field (v := .pointer (some ⟨g3, 2, none⟩)) rfl rfl (fun w => uadfld42_2 _ _ w)) ?_
  refine TL.gu ?_
  refine TL.val rfl rfl rfl (pm_load (k := 0) (i := 2) rfl rfl uadag35 rfl rfl) ?_
  refine TL.gu ?_
  refine TL.val rfl rfl rfl (gives_bin rfl rfl rfl (fun w => bin_eql_t (p3) w)) ?_
  refine TL.pk ?_
  refine TL.end_ (TX.then_ (TC.condT rfl (TC.seq_ (TC.region ?_))))
  refine TL.as_ ?_
  refine TL.as_ ?_
  refine TL.end_ (TX.then_ (TC.ret_ (TX.then_ret ?_)))
  exact ret_pair Try.results30 rfl rfl (fun w1 hw => ⟨⟨((none, 0), ([], 1)), .inl ⟨(fun hh => hh.2.2 p3), rfl⟩, Nat.le_refl _, Nat.zero_le _⟩, rfl, (hw.pick [] (by decide) rfl).nilrow _ _⟩)
 ·have hl1 : l.length ≤ 1024 := p1.1
  refine TC.region ?_
  refine TL.mv ?_
  refine TL.pcall1 (r := .bool true) rfl rfl rfl rfl rfl Try.func22 uadnm22 uadbd22 (fun w1 hw => valid_is A0 _ c0 l w1 ((hr.below hw.bel).more hw.bel.size) rfl (decide_eq_true p1)) ?_
  refine TL.val rfl rfl rfl (gives_boolnot rfl rfl) ?_
  refine TL.mv ?_
  refine TL.gu ?_
  refine TL.val rfl rfl rfl (gives_field (v := .pointer (some ⟨g3, 0, none⟩)) rfl rfl (fun w => uadfld42_0 _ _ w)) ?_
  refine TL.gu ?_
  refine TL.val rfl rfl rfl (pm_load (k := 0) (i := 0) rfl rfl uadag3 rfl rfl) ?_
  refine TL.gu ?_
  refine TL.val rfl rfl rfl (gives_bin rfl rfl rfl (fun w => bin_lss_f (p2) w)) ?_
  refine TL.pk ?_
  refine TL.mv ?_
  refine TL.gu ?_
  refine TL.val rfl rfl rfl (gives_field (v := .pointer (some ⟨g3, 1, none⟩)) rfl rfl (fun w => uadfld42_1 _ _ w)) ?_
  refine TL.gu ?_
  refine TL.val rfl rfl rfl (pm_load (k := 0) (i := 1) rfl rfl uadag35 rfl rfl) ?_
  refine TL.gu ?_
  refine TL.val rfl rfl rfl (gives_field (v := .pointer (some ⟨g3, 2, none⟩)) rfl rfl (fun w => uadfld42_2 _ _ w)) ?_
  refine TL.gu ?_
  refine TL.val rfl rfl rfl (pm_load (k := 0) (i := 2) rfl rfl uadag35 rfl rfl) ?_
  refine TL.gu ?_
  refine TL.val rfl rfl rfl (gives_bin rfl rfl rfl (fun w => bin_eql_f (p3) w)) ?_
  refine TL.pk ?_
  refine TL.end_ (TX.then_ (TC.condF rfl (TC.skip_ (TX.then_ (TC.seq_ (TC.region ?_))))))
  refine TL.mv ?_
  refine TL.val rfl rfl rfl (gives_field (v := .pointer (some ⟨g3, 0, none⟩)) rfl rfl (fun w => uadfld42_0 _ _ w)) ?_
  refine TL.val rfl rfl rfl (pm_load (k := 0) (i := 0) rfl rfl uadag3 rfl rfl) ?_
  refine TL.pcallPm (α := {y : Nat × Bool // FindOk l x.id y}) (fun y => .tuple #[.int .i64 ((y.1.1 : Nat) : Int), .bool y.1.2]) (fun y => []) rfl rfl rfl rfl rfl Try.func41 uadnm41 uadbd41 (fun w1 hw => (find_any A0 _ c0 l w1 ((hr.below hw.bel).more hw.bel.size) rfl (by omega) p1.asc x.id).mono fun e w2 ⟨x, h1, h2⟩ => ⟨x, h1, (Pm.start w1).below h2⟩) ?_
  rintro ⟨⟨i, b⟩, hib⟩
  dsimp only [List.cons_append, List.nil_append]
  try dsimp only at hib
  iterate 5 (first | refine TL.as_ ?_ | refine TL.ex ?_ | refine TL.mv ?_)
  refine TL.end_ (TX.then_ (TC.seq_ (TC.block (TC.seq_ (TC.region ?_)))))
  refine TL.vsplit rfl rfl rfl (gives_move rfl rfl) (fun h31 => ?_) (fun h31 => ?_)
  ·subst h31
   obtain ⟨hix, _⟩ := hib.some p1.asc
   refine TL.as_ ?_
   refine TL.end_ (TX.then_ (TC.condT rfl (TC.seq_ (TC.region ?_))))
   refine TL.as_ ?_
   refine TL.as_ ?_
   refine TL.end_ (TX.then_ (TC.ret_ (TX.in_ret (TX.then_ret ?_))))
   exact ret_pair Try.results30 rfl rfl (fun w1 hw => ⟨⟨((none, 0), ([], 9)), .inr ⟨⟨p1, by omega, p3⟩, .inl ⟨⟨_, hix⟩, rfl⟩⟩, Nat.le_refl _, Nat.zero_le _⟩, rfl, (hw.pick [] (by decide) rfl).nilrow _ _⟩)
  ·subst h31
   refine TL.as_ ?_
   refine TL.end_ (TX.then_ (TC.condF rfl (TC.seq_ (TC.region ?_))))
   refine TL.mv ?_
   refine TL.val rfl rfl rfl (gives_len rfl Try.underlying26 rfl) ?_
   refine TL.vsplit rfl rfl rfl (gives_bin rfl rfl rfl (fun w => bin_eql w)) (fun h35 => ?_) (fun h35 => ?_)
   ·have q35 := of_decide_eq_true h35
    refine TL.as_ ?_
    refine TL.end_ (TX.then_ (TC.condT rfl (TC.seq_ (TC.region ?_))))
    refine TL.as_ ?_
    refine TL.as_ ?_
    refine TL.end_ (TX.then_ (TC.ret_ (TX.in_ret (TX.then_ret ?_))))
    exact ret_pair Try.results30 rfl rfl (fun w1 hw => ⟨⟨((none, 0), ([], 5)), .inr ⟨⟨p1, by omega, p3⟩, .inr (.inl ⟨hib.none p1.asc, by omega, rfl⟩)⟩, Nat.le_refl _, Nat.zero_le _⟩, rfl, (hw.pick [] (by decide) rfl).nilrow _ _⟩)
   ·have q35 := of_decide_eq_false h35
    refine TL.as_ ?_
    refine TL.end_ (TX.then_ (TC.condF rfl (TC.skip_ (TX.in_normal (TX.then_ (TC.seq_ ?_))))))
    refine TC.held (ls := #[Ff,Ff,Ff,Ff,Ff,Ff,Ff,Ff]) (Pm w [.blk g3 42 [.int .i64 x.id, .int .u32 x.a, .int .u32 x.b]]) (by kernel_rfl) rfl rfl (fun w hw => hw.drawn _) ?_
    refine TH.tk (listed' := #[Tt,Ff,Ff,Ff,Ff,Ff,Ff,Ff]) 0 rfl rfl rfl (gives_move rfl rfl) (fun w1 hw => hw) ?_
    refine TH.tk (listed' := #[Tt,Ff,Tt,Ff,Ff,Ff,Ff,Ff]) 2 rfl rfl rfl (gives_move rfl rfl) (fun w1 hw => hw) ?_
    refine TH.tk (listed' := #[Tt,Ff,Tt,Tt,Ff,Ff,Ff,Ff]) 3 rfl rfl rfl (pm_loadV (k := 0) (i := 0) (n := 3) (v := .agg #[.int .i64 x.id, .int .u32 x.a, .int .u32 x.b]) rfl rfl uadag42 uadsz42 rfl (by show 3 ≤ 3; decide) rfl) (fun w1 hw => hw) ?_
    refine TH.two' (listed1 := #[Tt,Tt,Tt,Tt,Ff,Ff,Ff,Ff]) (listed2 := #[Tt,Ff,Tt,Tt,Tt,Ff,Ff,Ff]) 1 4 rfl rfl (by kernel_rfl) rfl rfl ?_ ?_
    ·refine TL.pcallPm (α := {p : Option Addr × Nat // l.length ≤ p.2 ∧ p.2 ≤ maxLen}) (fun y => .slice y.1.1 l.length y.1.2) (fun y => [.row (.slice y.1.1 l.length y.1.2) 42 3 l.length (fcs l)]) rfl rfl rfl rfl rfl Try.func43 uadnm43 uadbd43 (fun w1 hw => fclone_any A0 _ c0 l w1 ((hr.below hw.bel).more hw.bel.size) rfl (by omega)) ?_
     rintro ⟨⟨AA, cc⟩, hcc1, hcc2⟩
     dsimp only [List.cons_append, List.nil_append]
     refine TL.end_ ?_
     refine TX.held (fun w1 hw => hw.pick [1] (by decide) rfl) ?_
     refine TH.only' (listed' := #[Tt,Tt,Tt,Tt,Tt,Ff,Ff,Ff]) 4 rfl (by kernel_rfl) rfl ?_
     refine TL.prowS (e := 42) (size := 3) (cs := [.int .i64 x.id, .int .u32 x.a, .int .u32 x.b]) rfl rfl rfl rfl rfl (fun w => uadbs26_1_44646 _ _ _ w) (by decide) rfl (fun g40 => ?_)
     refine TL.end_ ?_
     refine TX.held (fun w1 hw => hw.pick [2] (by decide) rfl) ?_
     refine TH.only' (listed' := #[Tt,Tt,Tt,Tt,Tt,Tt,Ff,Ff]) 5 rfl (by kernel_rfl) rfl ?_
     refine TL.pcallGrow (k := 1) (M := l.length + 1) (ys := fcs (l.take i ++ x :: l.drop i)) rfl rfl rfl rfl rfl Try.func48 uadnm48 uadbd48 rfl (fun w1 hw hr1 => insf_any _ AA cc i _ _ l x w1 hr1 hw.base (pm_rowAtG hw (k := 0) rfl) (fun g9 hg9 => Pm.ne hw (i := 0) (j := 1) rfl rfl (by decide) rfl (by rw [hg9]; rfl)) hib.1.1 (by omega)) (fun AI ci hci1 hci2 => ?_)
     try dsimp only [List.set_cons_zero, List.set_cons_succ]
     refine TL.end_ ?_
     refine TX.held (fun w1 hw => hw.pick [2] (by decide) rfl) ?_
     refine TH.tk (listed' := #[Tt,Tt,Tt,Tt,Tt,Tt,Tt,Ff]) 6 rfl rfl rfl (gives_assign rfl rfl) (fun w1 hw => hw.pick [2] (by decide) rfl) ?_
     refine TH.tk (listed' := #[Tt,Tt,Tt,Tt,Tt,Tt,Tt,Tt]) 7 rfl rfl rfl (gives_assign rfl rfl) (fun w1 hw => hw.pick [2] (by decide) rfl) ?_
     refine TH.done (by kernel_rfl) ?_
     refine TX.then_ (TC.ret_ ?_)
     have hle : (l.take i ++ x :: l.drop i).length = l.length + 1 := by rw [List.length_append, List.length_cons, List.length_take, List.length_drop]; have := hib.1.1; dsimp only at this; omega
     exact ret_pair Try.results30 rfl rfl (fun w1 hw => ⟨⟨((AI, ci), (l.take i ++ x :: l.drop i, 0)), AddOk.done ⟨p1, by omega, p3⟩ (hib.none p1.asc) q35 ⟨i, hib.1, rfl⟩, by dsimp only; omega, hci2⟩, by dsimp only; rw [hle], by dsimp only; rw [hle]; exact hw.pick [1] (by decide) rfl⟩)
    ·refine TL.prowS (e := 42) (size := 3) (cs := [.int .i64 x.id, .int .u32 x.a, .int .u32 x.b]) rfl rfl rfl rfl rfl (fun w => uadbs26_1_44646 _ _ _ w) (by decide) rfl (fun g40 => ?_)
     refine TL.end_ ?_
     refine TX.held (fun w1 hw => hw.pick [1] (by decide) rfl) ?_
     refine TH.only' (listed' := #[Tt,Tt,Tt,Tt,Tt,Ff,Ff,Ff]) 1 rfl (by kernel_rfl) rfl ?_
     refine TL.pcallPm (α := {p : Option Addr × Nat // l.length ≤ p.2 ∧ p.2 ≤ maxLen}) (fun y => .slice y.1.1 l.length y.1.2) (fun y => [.row (.slice y.1.1 l.length y.1.2) 42 3 l.length (fcs l)]) rfl rfl rfl rfl rfl Try.func43 uadnm43 uadbd43 (fun w1 hw => fclone_any A0 _ c0 l w1 ((hr.below hw.bel).more hw.bel.size) rfl (by omega)) ?_
     rintro ⟨⟨AA, cc⟩, hcc1, hcc2⟩
     dsimp only [List.cons_append, List.nil_append]
     refine TL.end_ ?_
     refine TX.held (fun w1 hw => hw.pick [2] (by decide) rfl) ?_
     refine TH.only' (listed' := #[Tt,Tt,Tt,Tt,Tt,Tt,Ff,Ff]) 5 rfl (by kernel_rfl) rfl ?_
     refine TL.pcallGrow (k := 0) (M := l.length + 1) (ys := fcs (l.take i ++ x :: l.drop i)) rfl rfl rfl rfl rfl Try.func48 uadnm48 uadbd48 rfl (fun w1 hw hr1 => insf_any _ AA cc i _ _ l x w1 hr1 hw.base (pm_rowAtG hw (k := 1) rfl) (fun g9 hg9 => (Pm.ne hw (i := 0) (j := 1) rfl rfl (by decide) (by rw [hg9]; rfl) rfl).symm) hib.1.1 (by omega)) (fun AI ci hci1 hci2 => ?_)
     try dsimp only [List.set_cons_zero, List.set_cons_succ]
     refine TL.end_ ?_
     refine TX.held (fun w1 hw => hw.pick [2] (by decide) rfl) ?_
     refine TH.tk (listed' := #[Tt,Tt,Tt,Tt,Tt,Tt,Tt,Ff]) 6 rfl rfl rfl (gives_assign rfl rfl) (fun w1 hw => hw.pick [2] (by decide) rfl) ?_
     refine TH.tk (listed' := #[Tt,Tt,Tt,Tt,Tt,Tt,Tt,Tt]) 7 rfl rfl rfl (gives_assign rfl rfl) (fun w1 hw => hw.pick [2] (by decide) rfl) ?_
     refine TH.done (by kernel_rfl) ?_
     refine TX.then_ (TC.ret_ ?_)
     have hle : (l.take i ++ x :: l.drop i).length = l.length + 1 := by rw [List.length_append, List.length_cons, List.length_take, List.length_drop]; have := hib.1.1; dsimp only at this; omega
     exact ret_pair Try.results30 rfl rfl (fun w1 hw => ⟨⟨((AI, ci), (l.take i ++ x :: l.drop i, 0)), AddOk.done ⟨p1, by omega, p3⟩ (hib.none p1.asc) q35 ⟨i, hib.1, rfl⟩, by dsimp only; omega, hci2⟩, by dsimp only; rw [hle], by dsimp only; rw [hle]; exact hw.pick [0] (by decide) rfl⟩)
end Go.Proofs.Ytleckflmckbheaa

namespace Go.Proofs.Ytleckflmckbheaa
open Go.RowKit
set_option maxRecDepth 20000
theorem usfsz42 (w : World) : (sizeOf 42).run Try.prog w = .ok 3 w := rfl
theorem usfag42 (w : World) : (isAgg 42).run Try.prog w = .ok true w := rfl
set_option maxHeartbeats 1000000 in
theorem sf_any (A0 : Option Addr) (n0 c0 : Nat) (l : List Fc) (w : World) (hr : Reads w w.heap.size 3 A0 n0 (fcs l)) (hl : l.length = n0) (A1 : Option Addr) (n1 c1 : Nat) (m : List Fc) (hr1 : Reads w w.heap.size 3 A1 n1 (fcs m)) (hm : m.length = n1) (hl1 : l.length ≤ 100000) (hm1 : m.length ≤ 100000) :
    Calls Try.prog 25 #[.slice A0 n0 c0, .slice A1 n1 c1] w fun e w' => e = .returned (.bool (decide (l = m))) ∧ Below w.heap.size w w' := by
  subst hl hm
  refine begin_ (vs := [.slice A0 l.length c0, .slice A1 m.length c1]) Try.func25 rfl rfl rfl ?_ (Pm.start w)
  refine TC.seq_ ?_
  refine TC.region ?_
  refine TL.val rfl rfl rfl (gives_assign rfl rfl) ?_
  refine TL.end_ ?_
  refine TX.then_ ?_
  refine TC.seq_ ?_
  refine TC.seq_ ?_
  refine TC.region ?_
  refine TL.val rfl rfl rfl (gives_move rfl rfl) ?_
  refine TL.val rfl rfl rfl (gives_len rfl Try.underlying26 rfl) ?_
  refine TL.val rfl rfl rfl (gives_move rfl rfl) ?_
  refine TL.val rfl rfl rfl (gives_len rfl Try.underlying26 rfl) ?_
  refine TL.vsplit rfl rfl rfl (gives_bin rfl rfl rfl (fun w => bin_neq w)) (fun h10 => ?_) (fun h10 => ?_)
  · have q10 := of_decide_eq_true h10
    have hll : l.length ≠ m.length := by omega
    refine TL.end_ ?_
    refine TX.then_ ?_
    refine TC.condT rfl ?_
    refine TC.seq_ ?_
    refine TC.region ?_
    refine TL.val rfl rfl rfl (gives_assign rfl rfl) ?_
    refine TL.end_ ?_
    refine TX.then_ ?_
    refine TC.ret_ ?_
    refine TX.then_ret ?_
    exact ret_tmp Try.results25 rfl (fun w1 hw => ⟨by rw [decide_eq_false (fun hh => hll (by rw [hh]))], hw.bel⟩)
  · have q10 := of_decide_eq_false h10
    have hll : l.length = m.length := by omega
    refine TL.end_ ?_
    refine TX.then_ ?_
    refine TC.condF rfl ?_
    refine TC.skip_ ?_
    refine TX.then_ ?_
    refine TC.seq_ ?_
    refine TC.seq_ ?_
    refine TC.region ?_
    refine TL.val rfl rfl rfl (gives_assign rfl rfl) ?_
    refine TL.end_ ?_
    refine TX.then_ ?_
    refine TC.block ?_
    refine TC.loop_ (α := {i : Nat // i ≤ l.length ∧ l.take i = m.take i}) (fun y => [(0, .slice A0 l.length c0), (1, .slice A1 m.length c1), (5, .int .i64 ((y.1 : Nat) : Int))]) (fun y => Pm w []) (fun y => l.length - y.1) (⟨0, Nat.zero_le _, rfl⟩) ⟨rfl, rfl, rfl, trivial⟩ (fun w1 hw => hw) ?_
    rintro ⟨i, hi, ht⟩
    dsimp only at hi ht ⊢
    refine TC.seq_ ?_
    refine TC.seq_ ?_
    refine TC.region ?_
    refine TL.val rfl rfl rfl (gives_move rfl rfl) ?_
    refine TL.val rfl rfl rfl (gives_move rfl rfl) ?_
    refine TL.val rfl rfl rfl (gives_len rfl Try.underlying26 rfl) ?_
    refine TL.vsplit rfl rfl rfl (gives_bin rfl rfl rfl (fun w => bin_lss w)) (fun h14 => ?_) (fun h14 => ?_)
    · have q14 := of_decide_eq_true h14
      have hi2 : i < l.length := by omega
      obtain ⟨x, hx⟩ : ∃ x, l[i]? = some x := ⟨_, List.getElem?_eq_getElem hi2⟩
      obtain ⟨b2, o2, hA2, hbb2, hc2⟩ := hr.ad (by omega) (by decide)
      have hi3 : i < m.length := by omega
      obtain ⟨y, hy⟩ : ∃ y, m[i]? = some y := ⟨_, List.getElem?_eq_getElem hi3⟩
      obtain ⟨b3, o3, hA3, hbb3, hc3⟩ := hr1.ad (by omega) (by decide)
      refine TL.end_ ?_
      refine TX.then_ ?_
      refine TC.condT rfl ?_
      refine TC.skip_ ?_
      refine TX.then_ ?_
      refine TC.seq_ ?_
      refine TC.block ?_
      refine TC.seq_ ?_
      rcases Classical.em (x = y) with hxy | hxy
      · have ht2 : l.take (i + 1) = m.take (i + 1) := by rw [List.take_add_one, List.take_add_one, hx, hy, ht, hxy]
        refine TC.quiet_ (E' := ?_) (by kernel_rfl) (by kernel_rfl) (fun w hw => hw.drawn _) ?_ ?_
        rotate_left
        · refine TQ.val rfl rfl rfl (gives_move rfl rfl) ?_
          refine TQ.val rfl rfl rfl (gives_move rfl rfl) ?_
          refine TQ.val rfl rfl rfl (gives_at (v := .pointer (some ⟨b2, o2 + i * 3, none⟩)) rfl rfl rfl (fun w => at_el Try.underlying26 usfsz42 hA2 _ _ i hi2 rfl w)) ?_
          refine TQ.val rfl rfl rfl (gives_loadR rfl rfl usfag42 usfsz42 (fc_cells_len x) (fun w1 hw j u hu => (hw.bel.cell hbb2).trans (fcs_cell hx hc2 j u hu))) ?_
          refine TQ.val rfl rfl rfl (gives_move rfl rfl) ?_
          refine TQ.val rfl rfl rfl (gives_move rfl rfl) ?_
          refine TQ.val rfl rfl rfl (gives_at (v := .pointer (some ⟨b3, o3 + i * 3, none⟩)) rfl rfl rfl (fun w => at_el Try.underlying26 usfsz42 hA3 _ _ i hi3 rfl w)) ?_
          refine TQ.val rfl rfl rfl (gives_loadR rfl rfl usfag42 usfsz42 (fc_cells_len y) (fun w1 hw j u hu => (hw.bel.cell hbb3).trans (fcs_cell hy hc3 j u hu))) ?_
          refine TQ.val rfl rfl rfl (gives_bin2 (v := .bool false) rfl rfl rfl (fun w => fc_neq_is (by rw [decide_eq_true hxy]; rfl) _ _ w)) ?_
          exact TQ.end_
        refine TX.then_ ?_
        refine TC.condF rfl ?_
        refine TC.skip_ ?_
        refine TX.in_normal ?_
        refine TX.then_ ?_
        refine TC.region ?_
        refine TL.val rfl rfl rfl (gives_move rfl rfl) ?_
        refine TL.val rfl rfl rfl (gives_bin rfl rfl rfl (fun w => bin_add_ (r := ((i + 1 : Nat) : Int)) (by simp only [IntKind.wrap_i64]; omega) w)) ?_
        refine TL.val rfl rfl rfl (gives_assign rfl rfl) ?_
        refine TL.end_ ?_
        exact TX.round (⟨i + 1, hi2, ht2⟩) (by show l.length - (i + 1) < l.length - i; omega) ⟨rfl, rfl, rfl, trivial⟩ (fun w1 hw => hw)
      · refine TC.quiet_ (E' := ?_) (by kernel_rfl) (by kernel_rfl) (fun w hw => hw.drawn _) ?_ ?_
        rotate_left
        · refine TQ.val rfl rfl rfl (gives_move rfl rfl) ?_
          refine TQ.val rfl rfl rfl (gives_move rfl rfl) ?_
          refine TQ.val rfl rfl rfl (gives_at (v := .pointer (some ⟨b2, o2 + i * 3, none⟩)) rfl rfl rfl (fun w => at_el Try.underlying26 usfsz42 hA2 _ _ i hi2 rfl w)) ?_
          refine TQ.val rfl rfl rfl (gives_loadR rfl rfl usfag42 usfsz42 (fc_cells_len x) (fun w1 hw j u hu => (hw.bel.cell hbb2).trans (fcs_cell hx hc2 j u hu))) ?_
          refine TQ.val rfl rfl rfl (gives_move rfl rfl) ?_
          refine TQ.val rfl rfl rfl (gives_move rfl rfl) ?_
          refine TQ.val rfl rfl rfl (gives_at (v := .pointer (some ⟨b3, o3 + i * 3, none⟩)) rfl rfl rfl (fun w => at_el Try.underlying26 usfsz42 hA3 _ _ i hi3 rfl w)) ?_
          refine TQ.val rfl rfl rfl (gives_loadR rfl rfl usfag42 usfsz42 (fc_cells_len y) (fun w1 hw j u hu => (hw.bel.cell hbb3).trans (fcs_cell hy hc3 j u hu))) ?_
          refine TQ.val rfl rfl rfl (gives_bin2 (v := .bool true) rfl rfl rfl (fun w => fc_neq_is (by rw [decide_eq_false hxy]; rfl) _ _ w)) ?_
          exact TQ.end_
        refine TX.then_ ?_
        refine TC.condT rfl ?_
        refine TC.seq_ ?_
        refine TC.region ?_
        refine TL.val rfl rfl rfl (gives_assign rfl rfl) ?_
        refine TL.end_ ?_
        refine TX.then_ ?_
        refine TC.ret_ ?_
        refine TX.in_ret ?_
        refine TX.then_ret ?_
        refine TX.then_ret ?_
        refine TX.in_ret ?_
        refine TX.then_ret ?_
        exact ret_tmp Try.results25 rfl (fun w1 hw => ⟨by rw [decide_eq_false (fun hh => hxy (by subst hh; rw [hx] at hy; injection hy))], hw.bel⟩)
    · have q14 := of_decide_eq_false h14
      refine TL.end_ ?_
      refine TX.then_ ?_
      refine TC.condF rfl ?_
      refine TC.exit_ ?_
      refine TX.then_exit ?_
      refine TX.then_exit ?_
      refine TX.in_same ?_
      refine TX.then_ ?_
      refine TC.seq_ ?_
      refine TC.region ?_
      refine TL.val rfl rfl rfl (gives_assign rfl rfl) ?_
      refine TL.end_ ?_
      refine TX.then_ ?_
      refine TC.ret_ ?_
      exact ret_tmp Try.results25 rfl (fun w1 hw => ⟨by rw [decide_eq_true (by rw [List.take_of_length_le (by omega), List.take_of_length_le (by omega)] at ht; exact ht)], hw.bel⟩)
theorem sf_is (A0 : Option Addr) (n0 c0 : Nat) (l : List Fc) (w : World) (hr : Reads w w.heap.size 3 A0 n0 (fcs l)) (hl : l.length = n0) (A1 : Option Addr) (n1 c1 : Nat) (m : List Fc) (hr1 : Reads w w.heap.size 3 A1 n1 (fcs m)) (hm : m.length = n1) (hl1 : l.length ≤ 100000) (hm1 : m.length ≤ 100000) {t : Bool} (ht : decide (l = m) = t) :
    Calls Try.prog 25 #[.slice A0 n0 c0, .slice A1 n1 c1] w fun e w' => e = .returned (.bool t) ∧ Below w.heap.size w w' := by
  subst ht
  exact sf_any A0 n0 c0 l w hr hl A1 n1 c1 m hr1 hm hl1 hm1
end Go.Proofs.Ytleckflmckbheaa

namespace Go.Proofs.Ytleckflmckbheaa
open Go.RowKit
theorem ix_at2 {l : List Fc} (ha : Asc l) {i : Nat} {f : Fc} (hf : l[i]? = some f) : ixF l f.id = some i := by
 unfold ixF
 rw [List.findIdx?_eq_some_iff_getElem]
 obtain ⟨hlt, e⟩ := List.getElem?_eq_some_iff.1 hf
 refine ⟨hlt, by rw [e]; exact decide_eq_true rfl, fun j hj hjd => ?_⟩
 have h3 := of_decide_eq_true hjd
 have := ha j i _ f hj (List.getElem?_eq_getElem (by omega)) hf
 omega
theorem ix_none {l : List Fc} {id : Int} (h : ixF l id = none) : ∀ f ∈ l, f.id ≠ id := by
 unfold ixF at h
 rw [List.findIdx?_eq_none_iff] at h
 exact fun f hf => of_decide_eq_false (h f hf)
theorem ix_none_of {l : List Fc} {id : Int} (h : ∀ f ∈ l, f.id ≠ id) : ixF l id = none := by
 unfold ixF
 rw [List.findIdx?_eq_none_iff]
 exact fun f hf => decide_eq_false (h f hf)
theorem Lb.uniq {l : List Fc} {id : Int} {i j : Nat} (hi : Lb l id i) (hj : Lb l id j) : i = j := by
 have key : ∀ i j : Nat, Lb l id i → Lb l id j → ¬ i < j := by
  intro i j hi hj hlt
  have h1 : i < l.length := by have := hj.1; omega
  have h2 := (hj.2 i _ (List.getElem?_eq_getElem h1)).1 hlt
  have h3 := (hi.2 i _ (List.getElem?_eq_getElem h1)).2 h2
  omega
 have := key i j hi hj
 have := key j i hj hi
 omega
theorem add_valid {l : List Fc} {x : Fc} {i : Nat} (h : preA l x) (hn : ixF l x.id = none) (hl : l.length ≠ 1024) (hi : Lb l x.id i) : validF (l.take i ++ x :: l.drop i) := by
 obtain ⟨hV, h1, h2⟩ := h
 rw [validF_iff] at hV ⊢
 refine ⟨by have := hV.1; have := hi.1; simp only [List.length_append, List.length_take, List.length_cons, List.length_drop]; omega, fun f hf => ?_, ?_⟩
 ·rcases List.mem_append.1 hf with hf | hf
  ·exact hV.2.1 f (List.mem_of_mem_take hf)
  ·rcases List.mem_cons.1 hf with rfl | hf
   ·exact ⟨h1, h2⟩
   ·exact hV.2.1 f (List.mem_of_mem_drop hf)
 ·have hlow : ∀ f ∈ l.take i, f.id < x.id := by
   intro f hf
   obtain ⟨p, hp⟩ := List.getElem?_of_mem hf
   rw [List.getElem?_take] at hp
   split at hp
   ·rename_i hpi
    exact (hi.2 p f hp).1 hpi
   ·cases hp
  have hhigh : ∀ f ∈ l.drop i, x.id < f.id := by
   intro f hf
   obtain ⟨p, hp⟩ := List.getElem?_of_mem hf
   rw [List.getElem?_drop] at hp
   have h3 : ¬ f.id < x.id := fun hh => by have := (hi.2 _ f hp).2 hh; omega
   have h4 := ix_none hn f (List.mem_of_getElem? hp)
   omega
  rw [List.pairwise_append]
  refine ⟨hV.2.2.sublist (List.take_sublist _ _), List.pairwise_cons.2 ⟨hhigh, hV.2.2.sublist (List.drop_sublist _ _)⟩, fun f hf g hg => ?_⟩
  rcases List.mem_cons.1 hg with rfl | hg
  ·exact hlow f hf
  ·have := hlow f hf
   have := hhigh g hg
   omega
theorem ins_at {l : List Fc} {x : Fc} {i : Nat} (hi : i ≤ l.length) : (l.take i ++ x :: l.drop i)[i]? = some x := by
 rw [List.getElem?_append_right (by rw [List.length_take]; omega), List.length_take, Nat.min_eq_left hi, Nat.sub_self]
 rfl
theorem ins_erase {l : List Fc} {x : Fc} {i : Nat} (hi : i ≤ l.length) : (l.take i ++ x :: l.drop i).eraseIdx i = l := by
 rw [List.eraseIdx_append_of_length_le (by rw [List.length_take]; omega), List.length_take, Nat.min_eq_left hi, Nat.sub_self]
 show l.take i ++ l.drop i = l
 exact List.take_append_drop i l
theorem erase_ins {l : List Fc} {x : Fc} {k : Nat} (hx : l[k]? = some x) : (l.eraseIdx k).take k ++ x :: (l.eraseIdx k).drop k = l := by
 obtain ⟨hlt, e⟩ := List.getElem?_eq_some_iff.1 hx
 rw [List.eraseIdx_eq_take_drop_succ]
 have h1 : (l.take k).length = k := by rw [List.length_take]; omega
 rw [List.take_left' h1, List.drop_left' h1, ← e, List.getElem_cons_drop, List.take_append_drop]
theorem add_back {l : List Fc} {x : Fc} {out : List Fc} (h : AddOk l x (out, 0)) : validF out ∧ (∃ i, ixF out x.id = some i ∧ out.eraseIdx i = l) ∧ x ∈ out ∧ out.length = l.length + 1 ∧ (∀ f ∈ out, f = x ∨ f ∈ l) := by
 rcases h with ⟨_, h⟩ | ⟨hp, ⟨_, h⟩ | ⟨_, _, h⟩ | ⟨hn, hl, _, i, hi, ho⟩⟩
 ·injection h with h1 h2; cases h2
 ·injection h with h1 h2; cases h2
 ·injection h with h1 h2; cases h2
 ·have ho : out = l.take i ++ x :: l.drop i := ho
  subst ho
  have hV := add_valid hp hn hl hi
  refine ⟨hV, ⟨i, ix_at2 hV.asc (ins_at hi.1), ins_erase hi.1⟩, List.mem_append_right _ List.mem_cons_self, by have := hi.1; simp only [List.length_append, List.length_take, List.length_cons, List.length_drop]; omega, fun f hf => ?_⟩
  rcases List.mem_append.1 hf with hf | hf
  ·exact .inr (List.mem_of_mem_take hf)
  ·rcases List.mem_cons.1 hf with rfl | hf
   ·exact .inl rfl
   ·exact .inr (List.mem_of_mem_drop hf)
theorem add_err {l : List Fc} {x : Fc} {out : List Fc} {e : Int} (h : AddOk l x (out, e)) (hp : preA l x) (hl : l.length < 1024) (he : e ≠ 0) : e = 9 := by
 rcases h with ⟨h, _⟩ | ⟨_, ⟨_, h⟩ | ⟨_, h1, _⟩ | ⟨_, _, h, _⟩⟩
 ·exact absurd hp h
 ·injection h
 ·omega
 ·exact absurd h he
theorem back_add {l : List Fc} {x : Fc} {k : Nat} {out : List Fc} {e : Int} (hV : validF l) (hx : l[k]? = some x) (h : AddOk (l.eraseIdx k) x (out, e)) : e = 0 ∧ out = l := by
 have hV2 := validF_sub hV (List.eraseIdx_sublist l k)
 have hfx := ((validF_iff l).1 hV).2.1 x (List.mem_of_getElem? hx)
 have hlt := (List.getElem?_eq_some_iff.1 hx).1
 have hle := hV.1
 have hlen : (l.eraseIdx k).length = l.length - 1 := by rw [List.length_eraseIdx, if_pos hlt]
 have ha := hV.asc
 have hcell : ∀ p (y : Fc), (l.eraseIdx k)[p]? = some y → (p < k → y.id < x.id) ∧ (k ≤ p → x.id < y.id) := by
  intro p y hy
  rw [List.getElem?_eraseIdx] at hy
  split at hy
  ·rename_i hpk
   exact ⟨fun _ => ha p k y x hpk hy hx, fun hh => by omega⟩
  ·rename_i hpk
   exact ⟨fun hh => absurd hh hpk, fun hh => ha k (p + 1) x y (by omega) hx hy⟩
 have hn : ixF (l.eraseIdx k) x.id = none := ix_none_of fun f hf => by
  obtain ⟨p, hp⟩ := List.getElem?_of_mem hf
  have := hcell p f hp
  rcases Nat.lt_or_ge p k with hh | hh
  ·have := this.1 hh; omega
  ·have := this.2 hh; omega
 have hLb : Lb (l.eraseIdx k) x.id k := ⟨by omega, fun p y hy => ⟨(hcell p y hy).1, fun hh => Nat.lt_of_not_le fun hk => by have := (hcell p y hy).2 hk; omega⟩⟩
 rcases h with ⟨h, _⟩ | ⟨_, ⟨⟨i, h⟩, _⟩ | ⟨_, h1, _⟩ | ⟨_, _, h, i, hi, ho⟩⟩
 ·exact absurd ⟨hV2, hfx.1, hfx.2⟩ h
 ·rw [hn] at h; cases h
 ·omega
 ·refine ⟨h, ?_⟩
  have ho : out = _ := ho
  rw [ho, hi.uniq hLb, erase_ins hx]
def Fc.pr (f : Fc) : Int × Int := (f.a, f.b)
def Mix (l m : List Fc) : Prop := m.length = l.length ∧ m.map (·.id) = l.map (·.id) ∧ ∀ p, p ∈ m.map Fc.pr ↔ p ∈ l.map Fc.pr
theorem Mix.refl (l : List Fc) : Mix l l := ⟨rfl, rfl, fun _ => Iff.rfl⟩
def mixA (m : List Fc) (i j : Nat) (x y : Fc) : List Fc := (m.set i ⟨x.id, y.a, x.b⟩).set j ⟨y.id, x.a, y.b⟩
def mixB (m : List Fc) (i j : Nat) (x y : Fc) : List Fc := (m.set i ⟨x.id, y.a, y.b⟩).set j ⟨y.id, x.a, x.b⟩
theorem mixA_len (m : List Fc) (i j : Nat) (x y : Fc) : (mixA m i j x y).length = m.length := by unfold mixA; rw [List.length_set, List.length_set]
theorem mixB_len (m : List Fc) (i j : Nat) (x y : Fc) : (mixB m i j x y).length = m.length := by unfold mixB; rw [List.length_set, List.length_set]
theorem mixA1 {m : List Fc} {i j : Nat} {x y : Fc} (hx : m[i]? = some x) (hy : m[j]? = some y) : (m.set i ⟨x.id, y.a, x.b⟩)[j]? = some y := by
 rw [List.getElem?_set]
 split
 ·rename_i e
  subst e
  rw [hx] at hy
  cases hy
  rw [if_pos (List.getElem?_eq_some_iff.1 hx).1]
 ·exact hy
theorem mixA_i {m : List Fc} {i j : Nat} {x y : Fc} (hx : m[i]? = some x) (hy : m[j]? = some y) : (mixA m i j x y)[i]? = some ⟨x.id, y.a, x.b⟩ := by
 have h1 := (List.getElem?_eq_some_iff.1 hx).1
 unfold mixA
 rw [List.getElem?_set]
 split
 ·rename_i e
  subst e
  rw [hx] at hy
  cases hy
  rw [if_pos (by rw [List.length_set]; exact h1)]
 ·rw [List.getElem?_set, if_pos rfl, if_pos h1]
theorem mixA_j {m : List Fc} {i j : Nat} {x y : Fc} (hx : m[i]? = some x) (hy : m[j]? = some y) : (mixA m i j x y)[j]? = some ⟨y.id, x.a, y.b⟩ := by
 have h2 := (List.getElem?_eq_some_iff.1 hy).1
 unfold mixA
 rw [List.getElem?_set, if_pos rfl, if_pos (by rw [List.length_set]; exact h2)]
theorem mixB1 {m : List Fc} {i j : Nat} {x y : Fc} (hx : m[i]? = some x) (hy : m[j]? = some y) : ((mixA m i j x y).set i ⟨x.id, y.a, y.b⟩)[j]? = some ⟨y.id, x.a, y.b⟩ := by
 rw [List.getElem?_set]
 split
 ·rename_i e
  subst e
  rw [hx] at hy
  cases hy
  rw [if_pos (by rw [mixA_len]; exact (List.getElem?_eq_some_iff.1 hx).1)]
 ·exact mixA_j hx hy
theorem mixB_eq {m : List Fc} {i j : Nat} {x y : Fc} (hx : m[i]? = some x) (hy : m[j]? = some y) : ((mixA m i j x y).set i ⟨x.id, y.a, y.b⟩).set j ⟨y.id, x.a, x.b⟩ = mixB m i j x y := by
 have h1 := (List.getElem?_eq_some_iff.1 hx).1
 have h2 := (List.getElem?_eq_some_iff.1 hy).1
 refine List.ext_getElem? fun k => ?_
 unfold mixA mixB
 simp only [List.getElem?_set, List.length_set]
 by_cases e1 : j = k
 ·simp [e1]
 ·by_cases e2 : i = k
  ·simp [e1, e2]
  ·simp [e1, e2]
theorem mixB_at {m : List Fc} {i j : Nat} {x y : Fc} (hx : m[i]? = some x) (hy : m[j]? = some y) (k : Nat) : (mixB m i j x y)[k]? = if j = k then some ⟨y.id, x.a, x.b⟩ else if i = k then some ⟨x.id, y.a, y.b⟩ else m[k]? := by
 have h1 := (List.getElem?_eq_some_iff.1 hx).1
 have h2 := (List.getElem?_eq_some_iff.1 hy).1
 unfold mixB
 simp only [List.getElem?_set, List.length_set]
 by_cases e1 : j = k
 ·subst e1; simp [h2]
 ·by_cases e2 : i = k
  ·subst e2; simp [e1, h1]
  ·simp [e1, e2]
theorem Mix.step {l m : List Fc} (h : Mix l m) {i j : Nat} {x y : Fc} (hx : m[i]? = some x) (hy : m[j]? = some y) : Mix l (mixB m i j x y) := by
 refine ⟨(mixB_len _ _ _ _ _).trans h.1, ?_, fun p => ?_⟩
 ·rw [← h.2.1]
  refine List.ext_getElem? fun k => ?_
  rw [List.getElem?_map, List.getElem?_map, mixB_at hx hy]
  by_cases e1 : j = k
  ·subst e1; rw [if_pos rfl, hy]; rfl
  ·rw [if_neg e1]
   by_cases e2 : i = k
   ·subst e2; rw [if_pos rfl, hx]; rfl
   ·rw [if_neg e2]
 ·rw [← h.2.2 p]
  constructor
  ·intro hp
   obtain ⟨k, hk⟩ := List.getElem?_of_mem hp
   rw [List.getElem?_map, mixB_at hx hy] at hk
   by_cases e1 : j = k
   ·rw [if_pos e1] at hk
    simp only [Option.map_some, Option.some.injEq] at hk
    exact hk ▸ List.mem_map.2 ⟨x, List.mem_of_getElem? hx, rfl⟩
   ·rw [if_neg e1] at hk
    by_cases e2 : i = k
    ·rw [if_pos e2] at hk
     simp only [Option.map_some, Option.some.injEq] at hk
     exact hk ▸ List.mem_map.2 ⟨y, List.mem_of_getElem? hy, rfl⟩
    ·rw [if_neg e2, ← List.getElem?_map] at hk
     exact List.mem_of_getElem? hk
  ·intro hp
   obtain ⟨f, hf, rfl⟩ := List.mem_map.1 hp
   obtain ⟨k, hk⟩ := List.getElem?_of_mem hf
   by_cases e2 : i = k
   ·subst e2
    rw [hx] at hk
    cases hk
    exact List.mem_map.2 ⟨⟨y.id, x.a, x.b⟩, List.mem_of_getElem? (by rw [mixB_at hx hy j, if_pos rfl]), rfl⟩
   ·by_cases e1 : j = k
    ·subst e1
     rw [hy] at hk
     cases hk
     exact List.mem_map.2 ⟨⟨x.id, y.a, y.b⟩, List.mem_of_getElem? (by rw [mixB_at hx hy i, if_neg (fun e => e2 e.symm), if_pos rfl]), rfl⟩
    ·exact List.mem_map.2 ⟨f, List.mem_of_getElem? (by rw [mixB_at hx hy k, if_neg e1, if_neg e2]; exact hk), rfl⟩
theorem Mix.mem {l m : List Fc} (h : Mix l m) {f : Fc} (hf : f ∈ m) : ∃ g ∈ l, g.a = f.a ∧ g.b = f.b := by
 obtain ⟨g, hg, e⟩ := List.mem_map.1 ((h.2.2 f.pr).1 (List.mem_map.2 ⟨f, hf, rfl⟩))
 have e1 := congrArg Prod.fst e
 have e2 := congrArg Prod.snd e
 exact ⟨g, hg, e1, e2⟩
theorem Mix.symm {l m : List Fc} (h : Mix l m) : Mix m l := ⟨h.1.symm, h.2.1.symm, fun p => (h.2.2 p).symm⟩
theorem Mix.conn {l m : List Fc} (h : Mix l m) {a b : Int} (hc : Conn m a b) : Conn l a b := by
 induction hc with
 | refl a => exact .refl a
 | fact hf =>
  obtain ⟨g, hg, e1, e2⟩ := h.mem hf
  rw [← e1, ← e2]
  exact .fact hg
 | symm _ ih => exact ih.symm
 | trans _ _ ih1 ih2 => exact ih1.trans ih2
theorem Mix.ok {l m : List Fc} (h : Mix l m) (hok : ∀ f ∈ l, f.Ok) : ∀ f ∈ m, f.Ok := fun f hf => by
 obtain ⟨g, hg, e1, e2⟩ := h.mem hf
 have := hok g hg
 unfold Fc.Ok at this ⊢
 rw [← e1, ← e2]
 exact this
theorem Mix.valid {l m : List Fc} (h : Mix l m) (hV : validF l) : validF m := by
 rw [validF_iff] at hV ⊢
 refine ⟨by rw [h.1]; exact hV.1, fun f hf => ⟨?_, ?_⟩, ?_⟩
 ·have : f.id ∈ l.map (·.id) := by rw [← h.2.1]; exact List.mem_map.2 ⟨f, hf, rfl⟩
  obtain ⟨g, hg, e⟩ := List.mem_map.1 this
  have e : g.id = f.id := e
  rw [← e]
  exact (hV.2.1 g hg).1
 ·obtain ⟨g, hg, e1, e2⟩ := h.mem hf
  rw [← e1, ← e2]
  exact (hV.2.1 g hg).2
 ·have h1 : (l.map (·.id)).Pairwise (· < ·) := List.pairwise_map.2 hV.2.2
  rw [← h.2.1] at h1
  exact List.pairwise_map.1 h1
theorem Mix.classes {l m : List Fc} (h : Mix l m) (hV : validF l) : clsV l = clsV m := by
 rw [show clsV l = clsL l from if_pos hV, show clsV m = clsL m from if_pos (h.valid hV)]
 unfold clsL
 have hA : asc (adrs l) = asc (adrs m) := asc_same fun x => by
  rw [mem_adrs, mem_adrs]
  constructor
  ·rintro ⟨f, hf, hx⟩
   obtain ⟨g, hg, e1, e2⟩ := h.symm.mem hf
   exact ⟨g, hg, by rw [e1, e2]; exact hx⟩
  ·rintro ⟨f, hf, hx⟩
   obtain ⟨g, hg, e1, e2⟩ := h.mem hf
   exact ⟨g, hg, by rw [e1, e2]; exact hx⟩
 rw [hA]
 exact cls_kernel fun x _ y _ => by rw [rep_conn, rep_conn]; exact ⟨h.symm.conn, h.conn⟩
theorem fcs_pos {m : List Fc} {i : Nat} {x : Fc} (hx : m[i]? = some x) : fcs m = fcs (m.take i) ++ x.cells ++ fcs (m.drop (i + 1)) ∧ (fcs (m.take i)).length = i * 3 := by
 obtain ⟨hlt, e⟩ := List.getElem?_eq_some_iff.1 hx
 refine ⟨?_, ins_take m (by omega)⟩
 have h1 : m = m.take i ++ x :: m.drop (i + 1) := by rw [← e, List.getElem_cons_drop, List.take_append_drop]
 have h2 : fcs m = fcs (m.take i ++ x :: m.drop (i + 1)) := by rw [← h1]
 rw [h2, fcs_app, List.append_assoc]
 rfl
theorem fcs_putx {m : List Fc} {i : Nat} {x : Fc} (y : Fc) (hx : m[i]? = some x) : fcs (m.set i y) = fcs (m.take i) ++ y.cells ++ fcs (m.drop (i + 1)) := by
 obtain ⟨hlt, e⟩ := List.getElem?_eq_some_iff.1 hx
 rw [List.set_eq_take_append_cons_drop, if_pos hlt, fcs_app, List.append_assoc]
 rfl
theorem put_mid {P c T v : List Value} {k q : Nat} (hP : P.length = k) (hq : q + v.length ≤ c.length) : (P ++ c ++ T).take (0 + k + q) ++ v ++ (P ++ c ++ T).drop (0 + k + q + v.length) = P ++ (c.take q ++ v ++ c.drop (q + v.length)) ++ T := by
 subst hP
 have h1 : (P ++ c ++ T).take (0 + P.length + q) = P ++ c.take q := by
  rw [List.append_assoc, show 0 + P.length + q = P.length + q by omega, List.take_append, List.take_of_length_le (by omega), Nat.add_sub_cancel_left, List.take_append_of_le_length (by omega)]
 have h2 : (P ++ c ++ T).drop (0 + P.length + q + v.length) = c.drop (q + v.length) ++ T := by
  rw [List.append_assoc, show 0 + P.length + q + v.length = P.length + (q + v.length) by omega, ← List.drop_drop, List.drop_left, List.drop_append_of_le_length hq]
 rw [h1, h2]
 simp only [List.append_assoc]
theorem fcs_seta {m : List Fc} {i : Nat} {x : Fc} (hx : m[i]? = some x) (v : Int) : (fcs m).take (0 + i * 3 + 1) ++ [.int .u32 v] ++ (fcs m).drop (0 + i * 3 + 1 + [Value.int .u32 v].length) = fcs (m.set i ⟨x.id, v, x.b⟩) := by
 obtain ⟨h1, h2⟩ := fcs_pos hx
 rw [h1, fcs_putx _ hx, put_mid h2 (by show 1 + 1 ≤ 3; decide)]
 rfl
theorem fcs_setb {m : List Fc} {i : Nat} {x : Fc} (hx : m[i]? = some x) (v : Int) : (fcs m).take (0 + i * 3 + 2) ++ [.int .u32 v] ++ (fcs m).drop (0 + i * 3 + 2 + [Value.int .u32 v].length) = fcs (m.set i ⟨x.id, x.a, v⟩) := by
 obtain ⟨h1, h2⟩ := fcs_pos hx
 rw [h1, fcs_putx _ hx, put_mid h2 (by show 2 + 1 ≤ 3; decide)]
 rfl
end Go.Proofs.Ytleckflmckbheaa

namespace Go.Proofs.Ytleckflmckbheaa
open Go.RowKit
set_option maxRecDepth 20000
def atF (l : List Fc) (id : Int) : Int := match ixF l id with | some i => ((i : Nat) : Int) | none => -1
theorem ix_first {l : List Fc} {id : Int} {i : Nat} {x : Fc} (hx : l[i]? = some x) (ht : ∀ f ∈ l.take i, f.id ≠ id) (e : x.id = id) : ixF l id = some i := by
 obtain ⟨hlt, e2⟩ := List.getElem?_eq_some_iff.1 hx
 unfold ixF
 rw [List.findIdx?_eq_some_iff_getElem]
 refine ⟨hlt, by rw [e2]; exact decide_eq_true e, fun j hj hjd => ?_⟩
 exact ht _ (List.mem_iff_getElem?.2 ⟨j, by rw [List.getElem?_take, if_pos hj]; exact List.getElem?_eq_getElem (by omega)⟩) (of_decide_eq_true hjd)
theorem urasz35 (w : World) : (sizeOf 35).run Try.prog w = .ok 1 w := rfl
theorem uraag35 (w : World) : (isAgg 35).run Try.prog w = .ok false w := rfl
theorem urasz42 (w : World) : (sizeOf 42).run Try.prog w = .ok 3 w := rfl
theorem urafld42_0 (g o : Nat) (w : World) : (Instr.fieldAt 42 (.pointer (some ⟨g, o, none⟩)) 0).run Try.prog w = .ok (.pointer (some ⟨g, o + 0, none⟩)) w := by kernel_rfl
theorem uraag3 (w : World) : (isAgg 3).run Try.prog w = .ok false w := rfl
theorem urafld42_1 (g o : Nat) (w : World) : (Instr.fieldAt 42 (.pointer (some ⟨g, o, none⟩)) 1).run Try.prog w = .ok (.pointer (some ⟨g, o + 1, none⟩)) w := by kernel_rfl
theorem urafld42_2 (g o : Nat) (w : World) : (Instr.fieldAt 42 (.pointer (some ⟨g, o, none⟩)) 2).run Try.prog w = .ok (.pointer (some ⟨g, o + 2, none⟩)) w := by kernel_rfl
set_option maxHeartbeats 1000000 in
theorem has_any (A0 : Option Addr) (n0 c0 : Nat) (xs : List Int) (w : World) (hr : Reads w w.heap.size 1 A0 n0 (uv xs)) (hl : xs.length = n0) (hl1 : xs.length ≤ 100000) (a : Int) :
  Calls Try.prog 45 #[.slice A0 n0 c0, .int .u32 a] w fun e w' => e = .returned (.bool (decide (a ∈ xs))) ∧ Below w.heap.size w w' := by
 subst hl
 refine begin_ (vs := [.slice A0 xs.length c0, .int .u32 a]) Try.func45 rfl rfl rfl ?_ (Pm.start w)
 refine TC.seq_ (TC.region ?_)
 refine TL.as_ ?_
 refine TL.end_ (TX.then_ (TC.seq_ (TC.seq_ (TC.region ?_))))
 refine TL.as_ ?_
 refine TL.end_ (TX.then_ (TC.block ?_))
 refine TC.loop_ (α := {i : Nat // i ≤ xs.length ∧ a ∉ xs.take i}) (fun y => [(0, .slice A0 xs.length c0), (1, .int .u32 a), (5, .int .i64 ((y.1 : Nat) : Int))]) (fun y => Pm w []) (fun y => xs.length - y.1) (⟨0, Nat.zero_le _, List.not_mem_nil⟩) ⟨rfl, rfl, rfl, trivial⟩ (fun w1 hw => hw) ?_
 rintro ⟨i, hi, ht⟩
 dsimp only at hi ht ⊢
 refine TC.seq_ (TC.seq_ (TC.region ?_))
 refine TL.mv ?_
 refine TL.mv ?_
 refine TL.val rfl rfl rfl (gives_len rfl Try.underlying31 rfl) ?_
 refine TL.vsplit rfl rfl rfl (gives_bin rfl rfl rfl (fun w => bin_lss w)) (fun h9 => ?_) (fun h9 => ?_)
 ·have q9 := of_decide_eq_true h9
  obtain ⟨x, hx⟩ : ∃ x, xs[i]? = some x := ⟨_, List.getElem?_eq_getElem (by omega)⟩
  obtain ⟨b2, o2, hA2, hbb2, hc2⟩ := hr.ad (by omega) (by decide)
  refine TL.end_ (TX.then_ (TC.condT rfl (TC.skip_ (TX.then_ (TC.seq_ (TC.block (TC.seq_ (TC.region ?_))))))))
  refine TL.mv ?_
  refine TL.mv ?_
  refine TL.val rfl rfl rfl (gives_at (v := .pointer (some ⟨b2, o2 + i * 1, none⟩)) rfl rfl rfl (fun w => at_el Try.underlying31 urasz35 hA2 _ _ i (by omega) rfl w)) ?_
  refine TL.val rfl rfl rfl (gives_load (v := .int .u32 x) rfl rfl uraag35 (fun w1 hw => (hw.bel.cell hbb2).trans (by rw [Nat.mul_one]; exact hc2 _ _ (by unfold uv; rw [List.getElem?_map, hx]; rfl)))) ?_
  refine TL.mv ?_
  refine TL.vsplit rfl rfl rfl (gives_bin rfl rfl rfl (fun w => bin_eql w)) (fun h17 => ?_) (fun h17 => ?_)
  ·have q17 := of_decide_eq_true h17
   refine TL.end_ (TX.then_ (TC.condT rfl (TC.seq_ (TC.region ?_))))
   refine TL.as_ ?_
   refine TL.end_ (TX.then_ (TC.ret_ (TX.in_ret (TX.then_ret (TX.then_ret (TX.in_ret (TX.then_ret ?_)))))))
   exact ret_tmp Try.results45 rfl (fun w1 hw => ⟨by rw [decide_eq_true (by rw [← q17]; exact List.mem_of_getElem? hx)], hw.bel⟩)
  ·have q17 := of_decide_eq_false h17
   have ht2 : a ∉ xs.take (i + 1) := by rw [List.take_add_one, hx]; exact fun hh => (List.mem_append.1 hh).elim ht (fun h9 => q17 ((List.mem_singleton.1 h9).symm))
   refine TL.end_ (TX.then_ (TC.condF rfl (TC.skip_ (TX.in_normal (TX.then_ (TC.region ?_))))))
   refine TL.mv ?_
   refine TL.val rfl rfl rfl (gives_bin rfl rfl rfl (fun w => bin_add_ (r := ((i + 1 : Nat) : Int)) (by simp only [IntKind.wrap_i64]; omega) w)) ?_
   refine TL.as_ ?_
   refine TL.end_ ?_
   exact TX.round (⟨i + 1, by omega, ht2⟩) (by show xs.length - (i + 1) < xs.length - i; omega) ⟨rfl, rfl, rfl, trivial⟩ (fun w1 hw => hw)
 ·have q9 := of_decide_eq_false h9
  refine TL.end_ (TX.then_ (TC.condF rfl (TC.exit_ (TX.then_exit (TX.then_exit (TX.in_same (TX.then_ (TC.seq_ (TC.region ?_)))))))))
  refine TL.as_ ?_
  refine TL.end_ (TX.then_ (TC.ret_ ?_))
  exact ret_tmp Try.results45 rfl (fun w1 hw => ⟨by rw [decide_eq_false (by rw [List.take_of_length_le (by omega)] at ht; exact ht)], hw.bel⟩)
set_option maxHeartbeats 1000000 in
theorem rat_any (A0 : Option Addr) (n0 c0 : Nat) (l : List Fc) (w : World) (hr : Reads w w.heap.size 3 A0 n0 (fcs l)) (hl : l.length = n0) (hl1 : l.length ≤ 100000) (id : Int) :
  Calls Try.prog 49 #[.slice A0 n0 c0, .int .i64 id] w fun e w' => e = .returned (.int .i64 (atF l id)) ∧ Below w.heap.size w w' := by
 subst hl
 refine begin_ (vs := [.slice A0 l.length c0, .int .i64 id]) Try.func49 rfl rfl rfl ?_ (Pm.start w)
 refine TC.seq_ (TC.region ?_)
 refine TL.as_ ?_
 refine TL.end_ (TX.then_ (TC.seq_ (TC.seq_ (TC.region ?_))))
 refine TL.as_ ?_
 refine TL.end_ (TX.then_ (TC.block ?_))
 refine TC.loop_ (α := {i : Nat // i ≤ l.length ∧ ∀ f ∈ l.take i, f.id ≠ id}) (fun y => [(0, .slice A0 l.length c0), (1, .int .i64 id), (5, .int .i64 ((y.1 : Nat) : Int))]) (fun y => Pm w []) (fun y => l.length - y.1) (⟨0, Nat.zero_le _, fun f hf => absurd hf List.not_mem_nil⟩) ⟨rfl, rfl, rfl, trivial⟩ (fun w1 hw => hw) ?_
 rintro ⟨i, hi, ht⟩
 dsimp only at hi ht ⊢
 refine TC.seq_ (TC.seq_ (TC.region ?_))
 refine TL.mv ?_
 refine TL.mv ?_
 refine TL.val rfl rfl rfl (gives_len rfl Try.underlying26 rfl) ?_
 refine TL.vsplit rfl rfl rfl (gives_bin rfl rfl rfl (fun w => bin_lss w)) (fun h9 => ?_) (fun h9 => ?_)
 ·have q9 := of_decide_eq_true h9
  have hi2 : i < l.length := by omega
  obtain ⟨x, hx⟩ : ∃ x, l[i]? = some x := ⟨_, List.getElem?_eq_getElem hi2⟩
  obtain ⟨b2, o2, hA2, hbb2, hc2⟩ := hr.ad (by omega) (by decide)
  refine TL.end_ (TX.then_ (TC.condT rfl (TC.skip_ (TX.then_ (TC.seq_ (TC.block (TC.seq_ (TC.region ?_))))))))
  refine TL.mv ?_
  refine TL.mv ?_
  refine TL.val rfl rfl rfl (gives_at (v := .pointer (some ⟨b2, o2 + i * 3, none⟩)) rfl rfl rfl (fun w => at_el Try.underlying26 urasz42 hA2 _ _ i hi2 rfl w)) ?_
  refine TL.val rfl rfl rfl (gives_field (v := .pointer (some ⟨b2, o2 + i * 3 + 0, none⟩)) rfl rfl (fun w => urafld42_0 _ _ w)) ?_
  refine TL.val rfl rfl rfl (gives_load (v := .int .i64 x.id) rfl rfl uraag3 (fun w1 hw => (hw.bel.cell hbb2).trans (fcs_cell hx hc2 0 _ rfl))) ?_
  refine TL.mv ?_
  refine TL.vsplit rfl rfl rfl (gives_bin rfl rfl rfl (fun w => bin_eql w)) (fun h18 => ?_) (fun h18 => ?_)
  ·have q18 := of_decide_eq_true h18
   refine TL.end_ (TX.then_ (TC.condT rfl (TC.seq_ (TC.region ?_))))
   refine TL.mv ?_
   refine TL.as_ ?_
   refine TL.end_ (TX.then_ (TC.ret_ (TX.in_ret (TX.then_ret (TX.then_ret (TX.in_ret (TX.then_ret ?_)))))))
   exact ret_tmp Try.results49 rfl (fun w1 hw => ⟨by unfold atF; rw [ix_first hx ht q18], hw.bel⟩)
  ·have q18 := of_decide_eq_false h18
   have ht2 : ∀ f ∈ l.take (i + 1), f.id ≠ id := by
    rw [List.take_add_one, hx]
    exact fun f hf => (List.mem_append.1 hf).elim (ht f) (fun h9 => by rw [List.mem_singleton.1 h9]; exact q18)
   refine TL.end_ (TX.then_ (TC.condF rfl (TC.skip_ (TX.in_normal (TX.then_ (TC.region ?_))))))
   refine TL.mv ?_
   refine TL.val rfl rfl rfl (gives_bin rfl rfl rfl (fun w => bin_add_ (r := ((i + 1 : Nat) : Int)) (by simp only [IntKind.wrap_i64]; omega) w)) ?_
   refine TL.as_ ?_
   refine TL.end_ ?_
   exact TX.round (⟨i + 1, by omega, ht2⟩) (by show l.length - (i + 1) < l.length - i; omega) ⟨rfl, rfl, rfl, trivial⟩ (fun w1 hw => hw)
 ·have q9 := of_decide_eq_false h9
  refine TL.end_ (TX.then_ (TC.condF rfl (TC.exit_ (TX.then_exit (TX.then_exit (TX.in_same (TX.then_ (TC.seq_ (TC.region ?_)))))))))
  refine TL.as_ ?_
  refine TL.end_ (TX.then_ (TC.ret_ ?_))
  exact ret_tmp Try.results49 rfl (fun w1 hw => ⟨by unfold atF; rw [ix_none_of fun f hf => ht f (by rw [List.take_of_length_le (by omega)]; exact hf)], hw.bel⟩)
set_option maxHeartbeats 1000000 in
theorem rvalid_any (A0 : Option Addr) (n0 c0 : Nat) (l : List Fc) (w : World) (hr : Reads w w.heap.size 3 A0 n0 (fcs l)) (hl : l.length = n0) :
  Calls Try.prog 23 #[.slice A0 n0 c0] w fun e w' => e = .returned (.bool (decide (validF l))) ∧ Below w.heap.size w w' := by
 subst hl
 refine begin_ (vs := [.slice A0 l.length c0]) Try.func23 rfl rfl rfl ?_ (Pm.start w)
 refine TC.seq_ (TC.region ?_)
 refine TL.as_ ?_
 refine TL.end_ (TX.then_ (TC.seq_ (TC.seq_ (TC.region ?_))))
 refine TL.mv ?_
 refine TL.val rfl rfl rfl (gives_len rfl Try.underlying26 rfl) ?_
 refine TL.vsplit rfl rfl rfl (gives_bin rfl rfl rfl (fun w => bin_gtr w)) (fun h6 => ?_) (fun h6 => ?_)
 ·have q6 := of_decide_eq_true h6
  have hR : ¬ validF l := fun hh => by have := hh.1; omega
  refine TL.end_ (TX.then_ (TC.condT rfl (TC.seq_ (TC.region ?_))))
  refine TL.as_ ?_
  refine TL.end_ (TX.then_ (TC.ret_ (TX.then_ret ?_)))
  exact ret_tmp Try.results23 rfl (fun w1 hw => ⟨by rw [decide_eq_false hR], hw.bel⟩)
 ·have q6 := of_decide_eq_false h6
  refine TL.end_ (TX.then_ (TC.condF rfl (TC.skip_ (TX.then_ (TC.seq_ (TC.seq_ (TC.region ?_)))))))
  refine TL.as_ ?_
  refine TL.end_ (TX.then_ (TC.block ?_))
  refine TC.loop_ (α := {i : Nat // i ≤ l.length ∧ validN l i}) (fun y => [(0, .slice A0 l.length c0), (3, .int .i64 ((y.1 : Nat) : Int))]) (fun y => Pm w []) (fun y => l.length - y.1) (⟨0, Nat.zero_le _, fun j hj => absurd hj (Nat.not_lt_zero j)⟩) ⟨rfl, rfl, trivial⟩ (fun w1 hw => hw) ?_
  rintro ⟨i, hi, hv⟩
  dsimp only at hi hv ⊢
  refine TC.seq_ (TC.seq_ (TC.region ?_))
  refine TL.mv ?_
  refine TL.mv ?_
  refine TL.val rfl rfl rfl (gives_len rfl Try.underlying26 rfl) ?_
  refine TL.vsplit rfl rfl rfl (gives_bin rfl rfl rfl (fun w => bin_lss w)) (fun h10 => ?_) (fun h10 => ?_)
  ·have q10 := of_decide_eq_true h10
   have hi2 : i < l.length := by omega
   obtain ⟨x, hx⟩ : ∃ x, l[i]? = some x := ⟨_, List.getElem?_eq_getElem hi2⟩
   obtain ⟨b2, o2, hA2, hbb2, hc2⟩ := hr.ad (by omega) (by decide)
   refine TL.end_ (TX.then_ (TC.condT rfl (TC.skip_ (TX.then_ (TC.seq_ (TC.block (TC.seq_ ?_)))))))
   have hway : x.id < 0 ∨ (¬ x.id < 0 ∧ x.a = x.b) ∨ (¬ x.id < 0 ∧ ¬ x.a = x.b ∧ ¬ 0 < i) ∨ (¬ x.id < 0 ∧ ¬ x.a = x.b ∧ 0 < i ∧ ∀ y, l[i - 1]? = some y → y.id < x.id) ∨ (¬ x.id < 0 ∧ ¬ x.a = x.b ∧ 0 < i ∧ ¬ ∀ y, l[i - 1]? = some y → y.id < x.id) := by
    by_cases p1 : x.id < 0
    ·exact .inl p1
    ·by_cases p2 : x.a = x.b
     ·exact .inr (.inl ⟨p1, p2⟩)
     ·by_cases p3 : 0 < i
      ·by_cases p4 : ∀ y, l[i - 1]? = some y → y.id < x.id
       ·exact .inr (.inr (.inr (.inl ⟨p1, p2, p3, p4⟩)))
       ·exact .inr (.inr (.inr (.inr ⟨p1, p2, p3, p4⟩)))
      ·exact .inr (.inr (.inl ⟨p1, p2, p3⟩))
   rcases hway with p1 | ⟨p1, p2⟩ | ⟨p1, p2, p3⟩ | ⟨p1, p2, p3, p5⟩ | ⟨p1, p2, p3, p5⟩
   ·have hR : ¬ validF l := fun hh => by obtain ⟨v1, v2, v3⟩ := hh.2 i hi2 x hx; omega
    refine TC.quiet_ (E' := ?_) (by kernel_rfl) (by kernel_rfl) (fun w hw => hw.drawn _) ?_ ?_
    rotate_left
    ·refine TQ.val rfl rfl rfl (gives_move rfl rfl) ?_
     refine TQ.val rfl rfl rfl (gives_move rfl rfl) ?_
     refine TQ.val rfl rfl rfl (gives_at (v := .pointer (some ⟨b2, o2 + i * 3, none⟩)) rfl rfl rfl (fun w => at_el Try.underlying26 urasz42 hA2 _ _ i hi2 rfl w)) ?_
     refine TQ.val rfl rfl rfl (gives_field (v := .pointer (some ⟨b2, o2 + i * 3 + 0, none⟩)) rfl rfl (fun w => urafld42_0 _ _ w)) ?_
     refine TQ.val rfl rfl rfl (gives_load (v := .int .i64 x.id) rfl rfl uraag3 (fun w1 hw => (hw.bel.cell hbb2).trans (fcs_cell hx hc2 0 _ rfl))) ?_
     refine TQ.val rfl rfl rfl (gives_bin rfl rfl rfl (fun w => bin_lss_t (p1) w)) ?_
     iterate 17 (first | refine TQ.off rfl rfl rfl rfl rfl rfl ?_ | refine TQ.val rfl rfl rfl (gives_move rfl rfl) ?_ | refine TQ.val rfl rfl rfl (gives_pick rfl rfl rfl) ?_)
     refine TQ.offU rfl rfl rfl rfl rfl ?_
     refine TQ.offU rfl rfl rfl rfl rfl ?_
     refine TQ.offU rfl rfl rfl rfl rfl ?_
     refine TQ.offU rfl rfl rfl rfl rfl ?_
     refine TQ.offU rfl rfl rfl rfl rfl ?_
     refine TQ.offU rfl rfl rfl rfl rfl ?_
     refine TQ.offU rfl rfl rfl rfl rfl ?_
     refine TQ.offU rfl rfl rfl rfl rfl ?_
     refine TQ.offU rfl rfl rfl rfl rfl ?_
     refine TQ.offU rfl rfl rfl rfl rfl ?_
     refine TQ.offU rfl rfl rfl rfl rfl ?_
     refine TQ.offU rfl rfl rfl rfl rfl ?_
     refine TQ.off rfl rfl rfl rfl rfl rfl ?_
     refine TQ.val rfl rfl rfl (gives_pick rfl rfl rfl) ?_
     exact TQ.end_
    refine TX.then_ (TC.condT rfl (TC.seq_ (TC.region ?_)))
    refine TL.as_ ?_
    refine TL.end_ (TX.then_ (TC.ret_ (TX.in_ret (TX.then_ret (TX.then_ret (TX.in_ret (TX.then_ret ?_)))))))
    exact ret_tmp Try.results23 rfl (fun w1 hw => ⟨by rw [decide_eq_false hR], hw.bel⟩)
   ·have hR : ¬ validF l := fun hh => by obtain ⟨v1, v2, v3⟩ := hh.2 i hi2 x hx; exact v2 p2
    refine TC.quiet_ (E' := ?_) (by kernel_rfl) (by kernel_rfl) (fun w hw => hw.drawn _) ?_ ?_
    rotate_left
    ·refine TQ.val rfl rfl rfl (gives_move rfl rfl) ?_
     refine TQ.val rfl rfl rfl (gives_move rfl rfl) ?_
     refine TQ.val rfl rfl rfl (gives_at (v := .pointer (some ⟨b2, o2 + i * 3, none⟩)) rfl rfl rfl (fun w => at_el Try.underlying26 urasz42 hA2 _ _ i hi2 rfl w)) ?_
     refine TQ.val rfl rfl rfl (gives_field (v := .pointer (some ⟨b2, o2 + i * 3 + 0, none⟩)) rfl rfl (fun w => urafld42_0 _ _ w)) ?_
     refine TQ.val rfl rfl rfl (gives_load (v := .int .i64 x.id) rfl rfl uraag3 (fun w1 hw => (hw.bel.cell hbb2).trans (fcs_cell hx hc2 0 _ rfl))) ?_
     refine TQ.val rfl rfl rfl (gives_bin rfl rfl rfl (fun w => bin_lss_f (p1) w)) ?_
     iterate 6 (first | refine TQ.val rfl rfl rfl (gives_move rfl rfl) ?_ | refine TQ.on rfl rfl rfl ?_)
     refine TQ.val rfl rfl rfl (gives_at (v := .pointer (some ⟨b2, o2 + i * 3, none⟩)) rfl rfl rfl (fun w => at_el Try.underlying26 urasz42 hA2 _ _ i hi2 rfl w)) ?_
     refine TQ.on rfl rfl rfl ?_
     refine TQ.val rfl rfl rfl (gives_field (v := .pointer (some ⟨b2, o2 + i * 3 + 1, none⟩)) rfl rfl (fun w => urafld42_1 _ _ w)) ?_
     refine TQ.on rfl rfl rfl ?_
     refine TQ.val rfl rfl rfl (gives_load (v := .int .u32 x.a) rfl rfl uraag35 (fun w1 hw => (hw.bel.cell hbb2).trans (fcs_cell hx hc2 1 _ rfl))) ?_
     iterate 5 (first | refine TQ.on rfl rfl rfl ?_ | refine TQ.val rfl rfl rfl (gives_move rfl rfl) ?_)
     refine TQ.val rfl rfl rfl (gives_at (v := .pointer (some ⟨b2, o2 + i * 3, none⟩)) rfl rfl rfl (fun w => at_el Try.underlying26 urasz42 hA2 _ _ i hi2 rfl w)) ?_
     refine TQ.on rfl rfl rfl ?_
     refine TQ.val rfl rfl rfl (gives_field (v := .pointer (some ⟨b2, o2 + i * 3 + 2, none⟩)) rfl rfl (fun w => urafld42_2 _ _ w)) ?_
     refine TQ.on rfl rfl rfl ?_
     refine TQ.val rfl rfl rfl (gives_load (v := .int .u32 x.b) rfl rfl uraag35 (fun w1 hw => (hw.bel.cell hbb2).trans (fcs_cell hx hc2 2 _ rfl))) ?_
     refine TQ.on rfl rfl rfl ?_
     refine TQ.val rfl rfl rfl (gives_bin rfl rfl rfl (fun w => bin_eql_t (p2) w)) ?_
     iterate 5 (first | refine TQ.off rfl rfl rfl rfl rfl rfl ?_ | refine TQ.val rfl rfl rfl (gives_move rfl rfl) ?_ | refine TQ.val rfl rfl rfl (gives_pick rfl rfl rfl) ?_)
     refine TQ.offU rfl rfl rfl rfl rfl ?_
     refine TQ.offU rfl rfl rfl rfl rfl ?_
     refine TQ.offU rfl rfl rfl rfl rfl ?_
     refine TQ.offU rfl rfl rfl rfl rfl ?_
     refine TQ.offU rfl rfl rfl rfl rfl ?_
     refine TQ.offU rfl rfl rfl rfl rfl ?_
     refine TQ.offU rfl rfl rfl rfl rfl ?_
     refine TQ.offU rfl rfl rfl rfl rfl ?_
     refine TQ.offU rfl rfl rfl rfl rfl ?_
     refine TQ.offU rfl rfl rfl rfl rfl ?_
     refine TQ.offU rfl rfl rfl rfl rfl ?_
     refine TQ.offU rfl rfl rfl rfl rfl ?_
     refine TQ.off rfl rfl rfl rfl rfl rfl ?_
     refine TQ.val rfl rfl rfl (gives_pick rfl rfl rfl) ?_
     exact TQ.end_
    refine TX.then_ (TC.condT rfl (TC.seq_ (TC.region ?_)))
    refine TL.as_ ?_
    refine TL.end_ (TX.then_ (TC.ret_ (TX.in_ret (TX.then_ret (TX.then_ret (TX.in_ret (TX.then_ret ?_)))))))
    exact ret_tmp Try.results23 rfl (fun w1 hw => ⟨by rw [decide_eq_false hR], hw.bel⟩)
   ·have hst : validN l (i + 1) := valid_next hv hx (by omega) p2 (fun y h0 => absurd h0 p3)
    refine TC.quiet_ (E' := ?_) (by kernel_rfl) (by kernel_rfl) (fun w hw => hw.drawn _) ?_ ?_
    rotate_left
    ·refine TQ.val rfl rfl rfl (gives_move rfl rfl) ?_
     refine TQ.val rfl rfl rfl (gives_move rfl rfl) ?_
     refine TQ.val rfl rfl rfl (gives_at (v := .pointer (some ⟨b2, o2 + i * 3, none⟩)) rfl rfl rfl (fun w => at_el Try.underlying26 urasz42 hA2 _ _ i hi2 rfl w)) ?_
     refine TQ.val rfl rfl rfl (gives_field (v := .pointer (some ⟨b2, o2 + i * 3 + 0, none⟩)) rfl rfl (fun w => urafld42_0 _ _ w)) ?_
     refine TQ.val rfl rfl rfl (gives_load (v := .int .i64 x.id) rfl rfl uraag3 (fun w1 hw => (hw.bel.cell hbb2).trans (fcs_cell hx hc2 0 _ rfl))) ?_
     refine TQ.val rfl rfl rfl (gives_bin rfl rfl rfl (fun w => bin_lss_f (p1) w)) ?_
     iterate 6 (first | refine TQ.val rfl rfl rfl (gives_move rfl rfl) ?_ | refine TQ.on rfl rfl rfl ?_)
     refine TQ.val rfl rfl rfl (gives_at (v := .pointer (some ⟨b2, o2 + i * 3, none⟩)) rfl rfl rfl (fun w => at_el Try.underlying26 urasz42 hA2 _ _ i hi2 rfl w)) ?_
     refine TQ.on rfl rfl rfl ?_
     refine TQ.val rfl rfl rfl (gives_field (v := .pointer (some ⟨b2, o2 + i * 3 + 1, none⟩)) rfl rfl (fun w => urafld42_1 _ _ w)) ?_
     refine TQ.on rfl rfl rfl ?_
     refine TQ.val rfl rfl rfl (gives_load (v := .int .u32 x.a) rfl rfl uraag35 (fun w1 hw => (hw.bel.cell hbb2).trans (fcs_cell hx hc2 1 _ rfl))) ?_
     iterate 5 (first | refine TQ.on rfl rfl rfl ?_ | refine TQ.val rfl rfl rfl (gives_move rfl rfl) ?_)
     refine TQ.val rfl rfl rfl (gives_at (v := .pointer (some ⟨b2, o2 + i * 3, none⟩)) rfl rfl rfl (fun w => at_el Try.underlying26 urasz42 hA2 _ _ i hi2 rfl w)) ?_
     refine TQ.on rfl rfl rfl ?_
     refine TQ.val rfl rfl rfl (gives_field (v := .pointer (some ⟨b2, o2 + i * 3 + 2, none⟩)) rfl rfl (fun w => urafld42_2 _ _ w)) ?_
     refine TQ.on rfl rfl rfl ?_
     refine TQ.val rfl rfl rfl (gives_load (v := .int .u32 x.b) rfl rfl uraag35 (fun w1 hw => (hw.bel.cell hbb2).trans (fcs_cell hx hc2 2 _ rfl))) ?_
     refine TQ.on rfl rfl rfl ?_
     refine TQ.val rfl rfl rfl (gives_bin rfl rfl rfl (fun w => bin_eql_f (p2) w)) ?_
     iterate 5 (first | refine TQ.val rfl rfl rfl (gives_move rfl rfl) ?_ | refine TQ.on rfl rfl rfl ?_ | refine TQ.val rfl rfl rfl (gives_pick rfl rfl rfl) ?_)
     refine TQ.val rfl rfl rfl (gives_bin rfl rfl rfl (fun w => bin_gtr_f (by omega) w)) ?_
     iterate 17 (first | refine TQ.off rfl rfl rfl rfl rfl rfl ?_ | refine TQ.on rfl rfl rfl ?_ | refine TQ.val rfl rfl rfl (gives_pick rfl rfl rfl) ?_ | refine TQ.val rfl rfl rfl (gives_move rfl rfl) ?_)
     exact TQ.end_
    refine TX.then_ (TC.condF rfl (TC.skip_ (TX.in_normal (TX.then_ (TC.region ?_)))))
    refine TL.mv ?_
    refine TL.val rfl rfl rfl (gives_bin rfl rfl rfl (fun w => bin_add_ (r := ((i + 1 : Nat) : Int)) (by simp only [IntKind.wrap_i64]; omega) w)) ?_
    refine TL.as_ ?_
    refine TL.end_ ?_
    exact TX.round (⟨i + 1, hi2, hst⟩) (by show l.length - (i + 1) < l.length - i; omega) ⟨rfl, rfl, trivial⟩ (fun w1 hw => hw)
   ·have hi0 : 0 < i := p3
    obtain ⟨y, hy⟩ : ∃ y, l[i - 1]? = some y := ⟨_, List.getElem?_eq_getElem (by omega)⟩
    have p4 := p5 y hy
    have hst : validN l (i + 1) := valid_next hv hx (by omega) p2 (fun z _ hz => by rw [hy] at hz; cases hz; exact p4)
    refine TC.quiet_ (E' := ?_) (by kernel_rfl) (by kernel_rfl) (fun w hw => hw.drawn _) ?_ ?_
    rotate_left
    ·refine TQ.val rfl rfl rfl (gives_move rfl rfl) ?_
     refine TQ.val rfl rfl rfl (gives_move rfl rfl) ?_
     refine TQ.val rfl rfl rfl (gives_at (v := .pointer (some ⟨b2, o2 + i * 3, none⟩)) rfl rfl rfl (fun w => at_el Try.underlying26 urasz42 hA2 _ _ i hi2 rfl w)) ?_
     refine TQ.val rfl rfl rfl (gives_field (v := .pointer (some ⟨b2, o2 + i * 3 + 0, none⟩)) rfl rfl (fun w => urafld42_0 _ _ w)) ?_
     refine TQ.val rfl rfl rfl (gives_load (v := .int .i64 x.id) rfl rfl uraag3 (fun w1 hw => (hw.bel.cell hbb2).trans (fcs_cell hx hc2 0 _ rfl))) ?_
     refine TQ.val rfl rfl rfl (gives_bin rfl rfl rfl (fun w => bin_lss_f (p1) w)) ?_
     iterate 6 (first | refine TQ.val rfl rfl rfl (gives_move rfl rfl) ?_ | refine TQ.on rfl rfl rfl ?_)
     refine TQ.val rfl rfl rfl (gives_at (v := .pointer (some ⟨b2, o2 + i * 3, none⟩)) rfl rfl rfl (fun w => at_el Try.underlying26 urasz42 hA2 _ _ i hi2 rfl w)) ?_
     refine TQ.on rfl rfl rfl ?_
     refine TQ.val rfl rfl rfl (gives_field (v := .pointer (some ⟨b2, o2 + i * 3 + 1, none⟩)) rfl rfl (fun w => urafld42_1 _ _ w)) ?_
     refine TQ.on rfl rfl rfl ?_
     refine TQ.val rfl rfl rfl (gives_load (v := .int .u32 x.a) rfl rfl uraag35 (fun w1 hw => (hw.bel.cell hbb2).trans (fcs_cell hx hc2 1 _ rfl))) ?_
     iterate 5 (first | refine TQ.on rfl rfl rfl ?_ | refine TQ.val rfl rfl rfl (gives_move rfl rfl) ?_)
     refine TQ.val rfl rfl rfl (gives_at (v := .pointer (some ⟨b2, o2 + i * 3, none⟩)) rfl rfl rfl (fun w => at_el Try.underlying26 urasz42 hA2 _ _ i hi2 rfl w)) ?_
     refine TQ.on rfl rfl rfl ?_
     refine TQ.val rfl rfl rfl (gives_field (v := .pointer (some ⟨b2, o2 + i * 3 + 2, none⟩)) rfl rfl (fun w => urafld42_2 _ _ w)) ?_
     refine TQ.on rfl rfl rfl ?_
     refine TQ.val rfl rfl rfl (gives_load (v := .int .u32 x.b) rfl rfl uraag35 (fun w1 hw => (hw.bel.cell hbb2).trans (fcs_cell hx hc2 2 _ rfl))) ?_
     refine TQ.on rfl rfl rfl ?_
     refine TQ.val rfl rfl rfl (gives_bin rfl rfl rfl (fun w => bin_eql_f (p2) w)) ?_
     iterate 5 (first | refine TQ.val rfl rfl rfl (gives_move rfl rfl) ?_ | refine TQ.on rfl rfl rfl ?_ | refine TQ.val rfl rfl rfl (gives_pick rfl rfl rfl) ?_)
     refine TQ.val rfl rfl rfl (gives_bin rfl rfl rfl (fun w => bin_gtr_t (by omega) w)) ?_
     iterate 7 (first | refine TQ.on rfl rfl rfl ?_ | refine TQ.val rfl rfl rfl (gives_move rfl rfl) ?_)
     refine TQ.val rfl rfl rfl (gives_bin rfl rfl rfl (fun w => bin_sub_ (r := ((i - 1 : Nat) : Int)) (by simp only [IntKind.wrap_i64]; omega) w)) ?_
     refine TQ.on rfl rfl rfl ?_
     refine TQ.val rfl rfl rfl (gives_at (v := .pointer (some ⟨b2, o2 + (i - 1) * 3, none⟩)) rfl rfl rfl (fun w => at_el Try.underlying26 urasz42 hA2 _ _ (i - 1) (by omega) rfl w)) ?_
     refine TQ.on rfl rfl rfl ?_
     refine TQ.val rfl rfl rfl (gives_field (v := .pointer (some ⟨b2, o2 + (i - 1) * 3 + 0, none⟩)) rfl rfl (fun w => urafld42_0 _ _ w)) ?_
     refine TQ.on rfl rfl rfl ?_
     refine TQ.val rfl rfl rfl (gives_load (v := .int .i64 y.id) rfl rfl uraag3 (fun w1 hw => (hw.bel.cell hbb2).trans (fcs_cell hy hc2 0 _ rfl))) ?_
     iterate 5 (first | refine TQ.on rfl rfl rfl ?_ | refine TQ.val rfl rfl rfl (gives_move rfl rfl) ?_)
     refine TQ.val rfl rfl rfl (gives_at (v := .pointer (some ⟨b2, o2 + i * 3, none⟩)) rfl rfl rfl (fun w => at_el Try.underlying26 urasz42 hA2 _ _ i hi2 rfl w)) ?_
     refine TQ.on rfl rfl rfl ?_
     refine TQ.val rfl rfl rfl (gives_field (v := .pointer (some ⟨b2, o2 + i * 3 + 0, none⟩)) rfl rfl (fun w => urafld42_0 _ _ w)) ?_
     refine TQ.on rfl rfl rfl ?_
     refine TQ.val rfl rfl rfl (gives_load (v := .int .i64 x.id) rfl rfl uraag3 (fun w1 hw => (hw.bel.cell hbb2).trans (fcs_cell hx hc2 0 _ rfl))) ?_
     refine TQ.on rfl rfl rfl ?_
     refine TQ.val rfl rfl rfl (gives_bin rfl rfl rfl (fun w => bin_geq_f (by omega) w)) ?_
     refine TQ.on rfl rfl rfl ?_
     refine TQ.val rfl rfl rfl (gives_pick rfl rfl rfl) ?_
     refine TQ.val rfl rfl rfl (gives_pick rfl rfl rfl) ?_
     exact TQ.end_
    refine TX.then_ (TC.condF rfl (TC.skip_ (TX.in_normal (TX.then_ (TC.region ?_)))))
    refine TL.mv ?_
    refine TL.val rfl rfl rfl (gives_bin rfl rfl rfl (fun w => bin_add_ (r := ((i + 1 : Nat) : Int)) (by simp only [IntKind.wrap_i64]; omega) w)) ?_
    refine TL.as_ ?_
    refine TL.end_ ?_
    exact TX.round (⟨i + 1, hi2, hst⟩) (by show l.length - (i + 1) < l.length - i; omega) ⟨rfl, rfl, trivial⟩ (fun w1 hw => hw)
   ·have hi0 : 0 < i := p3
    obtain ⟨y, hy⟩ : ∃ y, l[i - 1]? = some y := ⟨_, List.getElem?_eq_getElem (by omega)⟩
    have p4 : ¬ y.id < x.id := fun hh => p5 fun z hz => by rw [hy] at hz; cases hz; exact hh
    have hR : ¬ validF l := fun hh => by obtain ⟨v1, v2, v3⟩ := hh.2 i hi2 x hx; have := v3 y hi0 hy; omega
    refine TC.quiet_ (E' := ?_) (by kernel_rfl) (by kernel_rfl) (fun w hw => hw.drawn _) ?_ ?_
    rotate_left
    ·refine TQ.val rfl rfl rfl (gives_move rfl rfl) ?_
     refine TQ.val rfl rfl rfl (gives_move rfl rfl) ?_
     refine TQ.val rfl rfl rfl (gives_at (v := .pointer (some ⟨b2, o2 + i * 3, none⟩)) rfl rfl rfl (fun w => at_el Try.underlying26 urasz42 hA2 _ _ i hi2 rfl w)) ?_
     refine TQ.val rfl rfl rfl (gives_field (v := .pointer (some ⟨b2, o2 + i * 3 + 0, none⟩)) rfl rfl (fun w => urafld42_0 _ _ w)) ?_
     refine TQ.val rfl rfl rfl (gives_load (v := .int .i64 x.id) rfl rfl uraag3 (fun w1 hw => (hw.bel.cell hbb2).trans (fcs_cell hx hc2 0 _ rfl))) ?_
     refine TQ.val rfl rfl rfl (gives_bin rfl rfl rfl (fun w => bin_lss_f (p1) w)) ?_
     iterate 6 (first | refine TQ.val rfl rfl rfl (gives_move rfl rfl) ?_ | refine TQ.on rfl rfl rfl ?_)
     refine TQ.val rfl rfl rfl (gives_at (v := .pointer (some ⟨b2, o2 + i * 3, none⟩)) rfl rfl rfl (fun w => at_el Try.underlying26 urasz42 hA2 _ _ i hi2 rfl w)) ?_
     refine TQ.on rfl rfl rfl ?_
     refine TQ.val rfl rfl rfl (gives_field (v := .pointer (some ⟨b2, o2 + i * 3 + 1, none⟩)) rfl rfl (fun w => urafld42_1 _ _ w)) ?_
     refine TQ.on rfl rfl rfl ?_
     refine TQ.val rfl rfl rfl (gives_load (v := .int .u32 x.a) rfl rfl uraag35 (fun w1 hw => (hw.bel.cell hbb2).trans (fcs_cell hx hc2 1 _ rfl))) ?_
     iterate 5 (first | refine TQ.on rfl rfl rfl ?_ | refine TQ.val rfl rfl rfl (gives_move rfl rfl) ?_)
     refine TQ.val rfl rfl rfl (gives_at (v := .pointer (some ⟨b2, o2 + i * 3, none⟩)) rfl rfl rfl (fun w => at_el Try.underlying26 urasz42 hA2 _ _ i hi2 rfl w)) ?_
     refine TQ.on rfl rfl rfl ?_
     refine TQ.val rfl rfl rfl (gives_field (v := .pointer (some ⟨b2, o2 + i * 3 + 2, none⟩)) rfl rfl (fun w => urafld42_2 _ _ w)) ?_
     refine TQ.on rfl rfl rfl ?_
     refine TQ.val rfl rfl rfl (gives_load (v := .int .u32 x.b) rfl rfl uraag35 (fun w1 hw => (hw.bel.cell hbb2).trans (fcs_cell hx hc2 2 _ rfl))) ?_
     refine TQ.on rfl rfl rfl ?_
     refine TQ.val rfl rfl rfl (gives_bin rfl rfl rfl (fun w => bin_eql_f (p2) w)) ?_
     iterate 5 (first | refine TQ.val rfl rfl rfl (gives_move rfl rfl) ?_ | refine TQ.on rfl rfl rfl ?_ | refine TQ.val rfl rfl rfl (gives_pick rfl rfl rfl) ?_)
     refine TQ.val rfl rfl rfl (gives_bin rfl rfl rfl (fun w => bin_gtr_t (by omega) w)) ?_
     iterate 7 (first | refine TQ.on rfl rfl rfl ?_ | refine TQ.val rfl rfl rfl (gives_move rfl rfl) ?_)
     refine TQ.val rfl rfl rfl (gives_bin rfl rfl rfl (fun w => bin_sub_ (r := ((i - 1 : Nat) : Int)) (by simp only [IntKind.wrap_i64]; omega) w)) ?_
     refine TQ.on rfl rfl rfl ?_
     refine TQ.val rfl rfl rfl (gives_at (v := .pointer (some ⟨b2, o2 + (i - 1) * 3, none⟩)) rfl rfl rfl (fun w => at_el Try.underlying26 urasz42 hA2 _ _ (i - 1) (by omega) rfl w)) ?_
     refine TQ.on rfl rfl rfl ?_
     refine TQ.val rfl rfl rfl (gives_field (v := .pointer (some ⟨b2, o2 + (i - 1) * 3 + 0, none⟩)) rfl rfl (fun w => urafld42_0 _ _ w)) ?_
     refine TQ.on rfl rfl rfl ?_
     refine TQ.val rfl rfl rfl (gives_load (v := .int .i64 y.id) rfl rfl uraag3 (fun w1 hw => (hw.bel.cell hbb2).trans (fcs_cell hy hc2 0 _ rfl))) ?_
     iterate 5 (first | refine TQ.on rfl rfl rfl ?_ | refine TQ.val rfl rfl rfl (gives_move rfl rfl) ?_)
     refine TQ.val rfl rfl rfl (gives_at (v := .pointer (some ⟨b2, o2 + i * 3, none⟩)) rfl rfl rfl (fun w => at_el Try.underlying26 urasz42 hA2 _ _ i hi2 rfl w)) ?_
     refine TQ.on rfl rfl rfl ?_
     refine TQ.val rfl rfl rfl (gives_field (v := .pointer (some ⟨b2, o2 + i * 3 + 0, none⟩)) rfl rfl (fun w => urafld42_0 _ _ w)) ?_
     refine TQ.on rfl rfl rfl ?_
     refine TQ.val rfl rfl rfl (gives_load (v := .int .i64 x.id) rfl rfl uraag3 (fun w1 hw => (hw.bel.cell hbb2).trans (fcs_cell hx hc2 0 _ rfl))) ?_
     refine TQ.on rfl rfl rfl ?_
     refine TQ.val rfl rfl rfl (gives_bin rfl rfl rfl (fun w => bin_geq_t (by omega) w)) ?_
     refine TQ.on rfl rfl rfl ?_
     refine TQ.val rfl rfl rfl (gives_pick rfl rfl rfl) ?_
     refine TQ.val rfl rfl rfl (gives_pick rfl rfl rfl) ?_
     exact TQ.end_
    refine TX.then_ (TC.condT rfl (TC.seq_ (TC.region ?_)))
    refine TL.as_ ?_
    refine TL.end_ (TX.then_ (TC.ret_ (TX.in_ret (TX.then_ret (TX.then_ret (TX.in_ret (TX.then_ret ?_)))))))
    exact ret_tmp Try.results23 rfl (fun w1 hw => ⟨by rw [decide_eq_false hR], hw.bel⟩)
  ·have q10 := of_decide_eq_false h10
   have hi2 : i = l.length := by omega
   subst hi2
   have hR : validF l := ⟨by omega, hv⟩
   refine TL.end_ (TX.then_ (TC.condF rfl (TC.exit_ (TX.then_exit (TX.then_exit (TX.in_same (TX.then_ (TC.seq_ (TC.region ?_)))))))))
   refine TL.as_ ?_
   refine TL.end_ (TX.then_ (TC.ret_ ?_))
   exact ret_tmp Try.results23 rfl (fun w1 hw => ⟨by rw [decide_eq_true hR], hw.bel⟩)
end Go.Proofs.Ytleckflmckbheaa

namespace Go.Proofs.Ytleckflmckbheaa
open Go.RowKit
set_option maxRecDepth 20000
theorem rvalid_is (A : Option Addr) (n c : Nat) (l : List Fc) (w : World) (hr : Reads w w.heap.size 3 A n (fcs l)) (hl : l.length = n) {t : Bool} (ht : decide (validF l) = t) :
    Calls Try.prog 23 #[.slice A n c] w fun e w' => e = .returned (.bool t) ∧ Below w.heap.size w w' := by
  subst ht
  exact rvalid_any A n c l w hr hl
theorem rd_take {w : World} {B k : Nat} {A : Option Addr} {l : List Fc} (h : Reads w B 3 A l.length (fcs l)) (hk : k ≤ l.length) : Reads w B 3 A k (fcs (l.take k)) := by
  refine ⟨by rw [fcs_len, List.length_take, Nat.min_eq_left hk], fun h0 => ?_⟩
  obtain ⟨ad, e, hb, hc⟩ := h.2 (by omega)
  refine ⟨ad, e, hb, fun j u hj => hc j u ?_⟩
  rw [← fcs_take, List.getElem?_take] at hj
  split at hj
  · exact hj
  · cases hj
theorem rd_drop {w : World} {B k c : Nat} {A : Option Addr} {l : List Fc} (h : Reads w B 3 A l.length (fcs l)) (hk : k ≤ l.length) (hc : l.length ≤ c) : Reads w B 3 (if c = k then A else A.map (·.add (k * 3))) (l.length - k) (fcs (l.drop k)) := by
  have h1 := h.cut (k := k) (cap := c) hk hc
  rw [fcs_drop] at h1
  exact h1
theorem urbsz42 (w : World) : (sizeOf 42).run Try.prog w = .ok 3 w := rfl
theorem urbnm23 : (Try.f23.name == "runtime.NumGoroutine") = false := by decide
theorem urbbd23 : Try.f23.body.isNone = false := rfl
theorem urbnm49 : (Try.f49.name == "runtime.NumGoroutine") = false := by decide
theorem urbbd49 : Try.f49.body.isNone = false := rfl
theorem urbel26 : Elem Try.prog 26 42 3 16 := Elem.mk' Try.underlying26 (z := .agg #[.int .i64 0, .int .u32 0, .int .u32 0]) (by kernel_rfl) rfl (by omega) (by omega)
set_option maxHeartbeats 1000000 in
theorem rrem_any (A0 : Option Addr) (n0 c0 : Nat) (l : List Fc) (w : World) (hr : Reads w w.heap.size 3 A0 n0 (fcs l)) (hl : l.length = n0) (hnc : l.length ≤ c0) (id : Int) :
    Calls Try.prog 32 #[.slice A0 n0 c0, .int .i64 id] w fun e w' => ∃ x : {y : (Option Addr × Nat) × List Fc × Int // y.2 = remP l id ∧ y.2.1.length ≤ y.1.2 ∧ y.1.2 ≤ maxLen}, e = .returned (.tuple #[.slice x.1.1.1 x.1.2.1.length x.1.1.2, .int .i64 x.1.2.2]) ∧ Pm w [.row (.slice x.1.1.1 x.1.2.1.length x.1.1.2) 42 3 x.1.2.1.length (fcs x.1.2.1)] w' := by
  subst hl
  refine begin_ (vs := [.slice A0 l.length c0, .int .i64 id]) Try.func32 rfl rfl rfl ?_ (Pm.start w)
  refine TC.seq_ ?_
  refine TC.region ?_
  refine TL.val rfl rfl rfl (gives_assign rfl rfl) ?_
  refine TL.val rfl rfl rfl (gives_assign rfl rfl) ?_
  refine TL.end_ ?_
  refine TX.then_ ?_
  refine TC.seq_ ?_
  refine TC.seq_ ?_
  rcases Classical.em (validF l) with hV | hV
  · have hl1 : l.length ≤ 1024 := hV.1
    refine TC.region ?_
    refine TL.val rfl rfl rfl (gives_move rfl rfl) ?_
    refine TL.pcall1 (r := .bool true) rfl rfl rfl rfl rfl Try.func23 urbnm23 urbbd23 (fun w1 hw => rvalid_is A0 _ c0 l w1 ((hr.below hw.bel).more hw.bel.size) rfl (decide_eq_true hV)) ?_
    refine TL.val rfl rfl rfl (gives_boolnot rfl rfl) ?_
    refine TL.end_ ?_
    refine TX.then_ ?_
    refine TC.condF rfl ?_
    refine TC.skip_ ?_
    refine TX.then_ ?_
    refine TC.seq_ ?_
    refine TC.region ?_
    refine TL.val rfl rfl rfl (gives_move rfl rfl) ?_
    refine TL.val rfl rfl rfl (gives_move rfl rfl) ?_
    refine TL.pcall1 (r := .int .i64 (atF l id)) rfl rfl rfl rfl rfl Try.func49 urbnm49 urbbd49 (fun w1 hw => rat_any A0 _ c0 l w1 ((hr.below hw.bel).more hw.bel.size) rfl (by omega) id) ?_
    refine TL.val rfl rfl rfl (gives_assign rfl rfl) ?_
    refine TL.end_ ?_
    refine TX.then_ ?_
    refine TC.seq_ ?_
    refine TC.seq_ ?_
    rcases hix : ixF l id with _ | k
    · have hat : atF l id = -1 := by unfold atF; rw [hix]
      rw [hat]
      refine TC.region ?_
      refine TL.val rfl rfl rfl (gives_move rfl rfl) ?_
      refine TL.val rfl rfl rfl (gives_bin rfl rfl rfl (fun w => bin_lss_t (by decide) w)) ?_
      refine TL.end_ ?_
      refine TX.then_ ?_
      refine TC.condT rfl ?_
      refine TC.seq_ ?_
      refine TC.region ?_
      refine TL.val rfl rfl rfl (gives_assign rfl rfl) ?_
      refine TL.val rfl rfl rfl (gives_assign rfl rfl) ?_
      refine TL.end_ ?_
      refine TX.then_ ?_
      refine TC.ret_ ?_
      refine TX.then_ret ?_
      exact ret_pair Try.results32 rfl rfl (fun w1 hw => ⟨⟨((none, 0), ([], 8)), by unfold remP; rw [if_pos hV, hix], Nat.le_refl _, Nat.zero_le _⟩, rfl, hw.nilrow _ _⟩)
    · have hat : atF l id = ((k : Nat) : Int) := by unfold atF; rw [hix]
      have hkl : k < l.length := by obtain ⟨z, hz, _⟩ := ixF_at hix; exact (List.getElem?_eq_some_iff.1 hz).1
      rw [hat]
      refine TC.region ?_
      refine TL.val rfl rfl rfl (gives_move rfl rfl) ?_
      refine TL.val rfl rfl rfl (gives_bin rfl rfl rfl (fun w => bin_lss_f (by omega) w)) ?_
      refine TL.end_ ?_
      refine TX.then_ ?_
      refine TC.condF rfl ?_
      refine TC.skip_ ?_
      refine TX.then_ ?_
      refine TC.seq_ ?_
      refine TC.held (ls := #[false, false, false, false, false, false, false, false, false, false, false]) (fun _ => True) (by kernel_rfl) rfl rfl (fun w hw => hw.drawn _) ?_
      refine TH.take (listed' := #[true, false, false, false, false, false, false, false, false, false, false]) 0 rfl (by kernel_rfl) (by kernel_rfl) (by kernel_rfl) rfl rfl rfl rfl (gives_move rfl rfl) (fun _ _ => trivial) ?_
      refine TH.take (listed' := #[true, true, false, false, false, false, false, false, false, false, false]) 1 rfl (by kernel_rfl) (by kernel_rfl) (by kernel_rfl) rfl rfl rfl rfl (gives_move rfl rfl) (fun _ _ => trivial) ?_
      refine TH.take (listed' := #[true, true, true, false, false, false, false, false, false, false, false]) 2 rfl (by kernel_rfl) (by kernel_rfl) (by kernel_rfl) rfl rfl rfl rfl (gives_sliceH (v := .slice A0 k c0) rfl rfl rfl (fun w => cut_hi Try.underlying26 urbsz42 _ _ _ k rfl (by omega) w)) (fun _ _ => trivial) ?_
      refine TH.take (listed' := #[true, true, true, false, true, false, false, false, false, false, false]) 4 rfl (by kernel_rfl) (by kernel_rfl) (by kernel_rfl) rfl rfl rfl rfl (gives_move rfl rfl) (fun _ _ => trivial) ?_
      refine TH.take (listed' := #[true, true, true, false, true, true, false, false, false, false, false]) 5 rfl (by kernel_rfl) (by kernel_rfl) (by kernel_rfl) rfl rfl rfl rfl (gives_move rfl rfl) (fun _ _ => trivial) ?_
      refine TH.take (listed' := #[true, true, true, false, true, true, true, false, false, false, false]) 6 rfl (by kernel_rfl) (by kernel_rfl) (by kernel_rfl) rfl rfl rfl rfl (gives_bin rfl rfl rfl (fun w => bin_add_ (r := ((k + 1 : Nat) : Int)) (by simp only [IntKind.wrap_i64]; omega) w)) (fun _ _ => trivial) ?_
      refine TH.take (listed' := #[true, true, true, false, true, true, true, true, false, false, false]) 7 rfl (by kernel_rfl) (by kernel_rfl) (by kernel_rfl) rfl rfl rfl rfl (gives_sliceL (v := .slice (if c0 = (k + 1) then A0 else A0.map (·.add ((k + 1) * 3))) (l.length - (k + 1)) (c0 - (k + 1))) rfl rfl rfl (fun w => cut_lo Try.underlying26 urbsz42 _ _ _ (k + 1) rfl (by omega) w)) (fun _ _ => trivial) ?_
      refine TH.only' (listed' := #[true, true, true, true, true, true, true, true, false, false, false]) 3 rfl (by kernel_rfl) rfl ?_
      refine TL.nilrow 42 3 ?_
      refine TL.appendT (k := 0) rfl rfl rfl rfl Try.underlying26 urbel26 rfl rfl rfl (fun w1 hw => ⟨_, rd_take ((hr.below hw.bel).more hw.bel.size) (by omega)⟩) (fcs_one _) (by show _ * 16 ≤ _; omega) (k) (by omega) (fcs (l.take k)) (rfl) (fun A18 c18 hA181 hA182 => ?_)
      refine TL.end_ ?_
      refine TX.held (fun _ _ => trivial) ?_
      refine TH.only' (listed' := #[true, true, true, true, true, true, true, true, true, false, false]) 8 rfl (by kernel_rfl) rfl ?_
      refine TL.appendT (k := 0) rfl rfl rfl rfl Try.underlying26 urbel26 rfl rfl rfl (fun w1 hw => ⟨_, rd_drop ((hr.below hw.bel).more hw.bel.size) (by omega) hnc⟩) (fcs_one _) (by show _ * 16 ≤ _; omega) (l.length - 1) (by omega) (fcs (l.eraseIdx k)) (by rw [← fcs_app, ← List.eraseIdx_eq_take_drop_succ]) (fun A23 c23 hA231 hA232 => ?_)
      refine TL.end_ ?_
      refine TX.held (fun _ _ => trivial) ?_
      refine TH.take (listed' := #[true, true, true, true, true, true, true, true, true, true, false]) 9 rfl (by kernel_rfl) (by kernel_rfl) (by kernel_rfl) rfl rfl rfl rfl (gives_assign rfl rfl) (fun _ _ => trivial) ?_
      refine TH.take (listed' := #[true, true, true, true, true, true, true, true, true, true, true]) 10 rfl (by kernel_rfl) (by kernel_rfl) (by kernel_rfl) rfl rfl rfl rfl (gives_assign rfl rfl) (fun _ _ => trivial) ?_
      refine TH.done (by kernel_rfl) ?_
      refine TX.then_ ?_
      refine TC.ret_ ?_
      have hle : (l.eraseIdx k).length = l.length - 1 := by rw [List.length_eraseIdx, if_pos hkl]
      exact ret_pair Try.results32 rfl rfl (fun w1 hw => ⟨⟨((A23, c23), (l.eraseIdx k, 0)), by unfold remP; rw [if_pos hV, hix], by dsimp only; omega, hA232⟩, by dsimp only; rw [hle], by dsimp only; rw [hle]; exact hw⟩)
  · refine TC.region ?_
    refine TL.val rfl rfl rfl (gives_move rfl rfl) ?_
    refine TL.pcall1 (r := .bool false) rfl rfl rfl rfl rfl Try.func23 urbnm23 urbbd23 (fun w1 hw => rvalid_is A0 _ c0 l w1 ((hr.below hw.bel).more hw.bel.size) rfl (decide_eq_false hV)) ?_
    refine TL.val rfl rfl rfl (gives_boolnot rfl rfl) ?_
    refine TL.end_ ?_
    refine TX.then_ ?_
    refine TC.condT rfl ?_
    refine TC.seq_ ?_
    refine TC.region ?_
    refine TL.val rfl rfl rfl (gives_assign rfl rfl) ?_
    refine TL.val rfl rfl rfl (gives_assign rfl rfl) ?_
    refine TL.end_ ?_
    refine TX.then_ ?_
    refine TC.ret_ ?_
    refine TX.then_ret ?_
    exact ret_pair Try.results32 rfl rfl (fun w1 hw => ⟨⟨((none, 0), ([], 1)), by unfold remP; rw [if_neg hV], Nat.le_refl _, Nat.zero_le _⟩, rfl, hw.nilrow _ _⟩)
end Go.Proofs.Ytleckflmckbheaa

namespace Go.Proofs.Ytleckflmckbheaa
open Go.RowKit
set_option maxRecDepth 20000
theorem lb_stop {l : List Fc} {id : Int} {k : Nat} (ha : Asc l) (hk : k ≤ l.length) (hlo : ∀ (p : Nat) (u : Fc), l[p]? = some u → p < k → u.id < id) (hhi : ∀ u, l[k]? = some u → id < u.id) : Lb l id k ∧ ixF l id = none := by
 have key : ∀ (p : Nat) (u : Fc), l[p]? = some u → k ≤ p → id < u.id := by
  intro p u hu hp
  obtain ⟨z, hz⟩ : ∃ z, l[k]? = some z := ⟨_, List.getElem?_eq_getElem (by have := (List.getElem?_eq_some_iff.1 hu).1; omega)⟩
  have h1 := hhi z hz
  rcases Nat.eq_or_lt_of_le hp with e | hlt
  ·subst e
   rw [hz] at hu
   cases hu
   exact h1
  ·have := ha k p z u hlt hz hu
   omega
 refine ⟨⟨hk, fun p u hu => ⟨hlo p u hu, fun hh => Nat.lt_of_not_le fun hp => by have := key p u hu hp; omega⟩⟩, ix_none_of fun f hf => ?_⟩
 obtain ⟨p, hp⟩ := List.getElem?_of_mem hf
 rcases Nat.lt_or_ge p k with hh | hh
 ·have := hlo p f hp hh; omega
 ·have := key p f hp hh; omega
theorem urcsz42 (w : World) : (sizeOf 42).run Try.prog w = .ok 3 w := rfl
theorem urcfld42_1 (g o : Nat) (w : World) : (Instr.fieldAt 42 (.pointer (some ⟨g, o, none⟩)) 1).run Try.prog w = .ok (.pointer (some ⟨g, o + 1, none⟩)) w := by kernel_rfl
theorem urcag35 (w : World) : (isAgg 35).run Try.prog w = .ok false w := rfl
theorem urcfld42_2 (g o : Nat) (w : World) : (Instr.fieldAt 42 (.pointer (some ⟨g, o, none⟩)) 2).run Try.prog w = .ok (.pointer (some ⟨g, o + 2, none⟩)) w := by kernel_rfl
theorem urcnm23 : (Try.f23.name == "runtime.NumGoroutine") = false := by decide
theorem urcbd23 : Try.f23.body.isNone = false := rfl
theorem urcfld42_0 (g o : Nat) (w : World) : (Instr.fieldAt 42 (.pointer (some ⟨g, o, none⟩)) 0).run Try.prog w = .ok (.pointer (some ⟨g, o + 0, none⟩)) w := by kernel_rfl
theorem urcag3 (w : World) : (isAgg 3).run Try.prog w = .ok false w := rfl
theorem urcag42 (w : World) : (isAgg 42).run Try.prog w = .ok true w := rfl
theorem urcel26 : Elem Try.prog 26 42 3 16 := Elem.mk' Try.underlying26 (z := .agg #[.int .i64 0, .int .u32 0, .int .u32 0]) (by kernel_rfl) rfl (by omega) (by omega)
theorem urcbs26_1_44646 (a0_0 : Int) (a0_1 : Int) (a0_2 : Int) (w : World) : (Instr.buildSlice 26 1 #[(0, .agg #[.int .i64 a0_0, .int .u32 a0_1, .int .u32 a0_2])]).run Try.prog w = .ok (.slice (some ⟨w.heap.size, 0, none⟩) 1 1) (w.alloc (.cells [.int .i64 a0_0, .int .u32 a0_1, .int .u32 a0_2].toArray 42)) := by kernel_rfl
set_option maxHeartbeats 1000000 in
theorem rcheck_any (A0 : Option Addr) (n0 c0 : Nat) (l : List Fc) (w : World) (hr : Reads w w.heap.size 3 A0 n0 (fcs l)) (hl : l.length = n0) (hl1 : l.length ≤ 100000) (a b : Int) :
  Calls Try.prog 29 #[.slice A0 n0 c0, .int .u32 a, .int .u32 b] w fun e w' => e = .returned (.bool (decide (chkF l a = some b))) ∧ Below w.heap.size w w' := by
 subst hl
 refine begin_ (vs := [.slice A0 l.length c0, .int .u32 a, .int .u32 b]) Try.func29 rfl rfl rfl ?_ (Pm.start w)
 refine TC.seq_ (TC.region ?_)
 refine TL.as_ ?_
 refine TL.end_ (TX.then_ (TC.seq_ (TC.seq_ (TC.region ?_))))
 refine TL.as_ ?_
 refine TL.end_ (TX.then_ (TC.block ?_))
 refine TC.loop_ (α := {y : Nat × Int // y.1 ≤ l.length ∧ chkF l a = chkF (l.drop y.1) y.2}) (fun y => [(0, .slice A0 l.length c0), (1, .int .u32 y.1.2), (2, .int .u32 b), (7, .int .i64 ((y.1.1 : Nat) : Int))]) (fun y => Pm w []) (fun y => l.length - y.1.1) (⟨(0, a), Nat.zero_le _, rfl⟩) ⟨rfl, rfl, rfl, rfl, trivial⟩ (fun w1 hw => hw) ?_
 rintro ⟨⟨i, at0⟩, hi, hch⟩
 dsimp only at hi hch ⊢
 refine TC.seq_ (TC.seq_ (TC.region ?_))
 refine TL.mv ?_
 refine TL.mv ?_
 refine TL.val rfl rfl rfl (gives_len rfl Try.underlying26 rfl) ?_
 refine TL.vsplit rfl rfl rfl (gives_bin rfl rfl rfl (fun w => bin_lss w)) (fun h11 => ?_) (fun h11 => ?_)
 ·have q11 := of_decide_eq_true h11
  have hi2 : i < l.length := by omega
  obtain ⟨x, hx⟩ : ∃ x, l[i]? = some x := ⟨_, List.getElem?_eq_getElem hi2⟩
  obtain ⟨b2, o2, hA2, hbb2, hc2⟩ := hr.ad (by omega) (by decide)
  have hdr : l.drop i = x :: l.drop (i + 1) := by rw [← (List.getElem?_eq_some_iff.1 hx).2]; exact List.drop_eq_getElem_cons hi2
  refine TL.end_ (TX.then_ (TC.condT rfl (TC.skip_ (TX.then_ (TC.seq_ (TC.block (TC.block (TC.seq_ ?_))))))))
  have hway : x.a = x.b ∨ (¬ x.a = x.b ∧ x.a ≠ at0 ∧ x.b ≠ at0) ∨ (¬ x.a = x.b ∧ x.a ≠ at0 ∧ x.b = at0) ∨ (¬ x.a = x.b ∧ x.a = at0) := by omega
  rcases hway with p1 | ⟨p1, p2, p3⟩ | ⟨p1, p2, p3⟩ | ⟨p1, p2⟩
  ·have hN : chkF l a = none := by rw [hch, hdr]; unfold chkF; rw [if_pos (.inl p1)]
   refine TC.quiet_ (E' := ?_) (by kernel_rfl) (by kernel_rfl) (fun w hw => hw.drawn _) ?_ ?_
   rotate_left
   ·refine TQ.val rfl rfl rfl (gives_move rfl rfl) ?_
    refine TQ.val rfl rfl rfl (gives_move rfl rfl) ?_
    refine TQ.val rfl rfl rfl (gives_at (v := .pointer (some ⟨b2, o2 + i * 3, none⟩)) rfl rfl rfl (fun w => at_el Try.underlying26 urcsz42 hA2 _ _ i hi2 rfl w)) ?_
    refine TQ.val rfl rfl rfl (gives_field (v := .pointer (some ⟨b2, o2 + i * 3 + 1, none⟩)) rfl rfl (fun w => urcfld42_1 _ _ w)) ?_
    refine TQ.val rfl rfl rfl (gives_load (v := .int .u32 x.a) rfl rfl urcag35 (fun w1 hw => (hw.bel.cell hbb2).trans (fcs_cell hx hc2 1 _ rfl))) ?_
    refine TQ.val rfl rfl rfl (gives_move rfl rfl) ?_
    refine TQ.val rfl rfl rfl (gives_move rfl rfl) ?_
    refine TQ.val rfl rfl rfl (gives_at (v := .pointer (some ⟨b2, o2 + i * 3, none⟩)) rfl rfl rfl (fun w => at_el Try.underlying26 urcsz42 hA2 _ _ i hi2 rfl w)) ?_
    refine TQ.val rfl rfl rfl (gives_field (v := .pointer (some ⟨b2, o2 + i * 3 + 2, none⟩)) rfl rfl (fun w => urcfld42_2 _ _ w)) ?_
    refine TQ.val rfl rfl rfl (gives_load (v := .int .u32 x.b) rfl rfl urcag35 (fun w1 hw => (hw.bel.cell hbb2).trans (fcs_cell hx hc2 2 _ rfl))) ?_
    refine TQ.val rfl rfl rfl (gives_bin rfl rfl rfl (fun w => bin_eql_t (p1) w)) ?_
    refine TQ.val rfl rfl rfl (gives_assign rfl rfl) ?_
    exact TQ.end_
   refine TX.then_ (TC.condT rfl (TC.seq_ (TC.region ?_)))
   refine TL.as_ ?_
   refine TL.end_ (TX.then_ (TC.ret_ (TX.in_ret (TX.in_ret (TX.then_ret (TX.then_ret (TX.in_ret (TX.then_ret ?_))))))))
   exact ret_tmp Try.results29 rfl (fun w1 hw => ⟨by rw [hN, decide_eq_false (fun hh => by cases hh)], hw.bel⟩)
  ·have hN : chkF l a = none := by rw [hch, hdr]; unfold chkF; rw [if_pos (.inr ⟨p2, p3⟩)]
   refine TC.quiet_ (E' := ?_) (by kernel_rfl) (by kernel_rfl) (fun w hw => hw.drawn _) ?_ ?_
   rotate_left
   ·refine TQ.val rfl rfl rfl (gives_move rfl rfl) ?_
    refine TQ.val rfl rfl rfl (gives_move rfl rfl) ?_
    refine TQ.val rfl rfl rfl (gives_at (v := .pointer (some ⟨b2, o2 + i * 3, none⟩)) rfl rfl rfl (fun w => at_el Try.underlying26 urcsz42 hA2 _ _ i hi2 rfl w)) ?_
    refine TQ.val rfl rfl rfl (gives_field (v := .pointer (some ⟨b2, o2 + i * 3 + 1, none⟩)) rfl rfl (fun w => urcfld42_1 _ _ w)) ?_
    refine TQ.val rfl rfl rfl (gives_load (v := .int .u32 x.a) rfl rfl urcag35 (fun w1 hw => (hw.bel.cell hbb2).trans (fcs_cell hx hc2 1 _ rfl))) ?_
    refine TQ.val rfl rfl rfl (gives_move rfl rfl) ?_
    refine TQ.val rfl rfl rfl (gives_move rfl rfl) ?_
    refine TQ.val rfl rfl rfl (gives_at (v := .pointer (some ⟨b2, o2 + i * 3, none⟩)) rfl rfl rfl (fun w => at_el Try.underlying26 urcsz42 hA2 _ _ i hi2 rfl w)) ?_
    refine TQ.val rfl rfl rfl (gives_field (v := .pointer (some ⟨b2, o2 + i * 3 + 2, none⟩)) rfl rfl (fun w => urcfld42_2 _ _ w)) ?_
    refine TQ.val rfl rfl rfl (gives_load (v := .int .u32 x.b) rfl rfl urcag35 (fun w1 hw => (hw.bel.cell hbb2).trans (fcs_cell hx hc2 2 _ rfl))) ?_
    refine TQ.val rfl rfl rfl (gives_bin rfl rfl rfl (fun w => bin_eql_f (p1) w)) ?_
    refine TQ.val rfl rfl rfl (gives_assign rfl rfl) ?_
    exact TQ.end_
   refine TX.then_ (TC.condF rfl (TC.seq_ (TC.region ?_)))
   refine TL.mv ?_
   refine TL.mv ?_
   refine TL.val rfl rfl rfl (gives_at (v := .pointer (some ⟨b2, o2 + i * 3, none⟩)) rfl rfl rfl (fun w => at_el Try.underlying26 urcsz42 hA2 _ _ i hi2 rfl w)) ?_
   refine TL.val rfl rfl rfl (gives_field (v := .pointer (some ⟨b2, o2 + i * 3 + 1, none⟩)) rfl rfl (fun w => urcfld42_1 _ _ w)) ?_
   refine TL.val rfl rfl rfl (gives_load (v := .int .u32 x.a) rfl rfl urcag35 (fun w1 hw => (hw.bel.cell hbb2).trans (fcs_cell hx hc2 1 _ rfl))) ?_
   refine TL.mv ?_
   refine TL.val rfl rfl rfl (gives_bin rfl rfl rfl (fun w => bin_eql_f (p2) w)) ?_
   refine TL.as_ ?_
   refine TL.end_ (TX.then_ (TC.condF rfl (TC.seq_ (TC.region ?_))))
   refine TL.mv ?_
   refine TL.mv ?_
   refine TL.val rfl rfl rfl (gives_at (v := .pointer (some ⟨b2, o2 + i * 3, none⟩)) rfl rfl rfl (fun w => at_el Try.underlying26 urcsz42 hA2 _ _ i hi2 rfl w)) ?_
   refine TL.val rfl rfl rfl (gives_field (v := .pointer (some ⟨b2, o2 + i * 3 + 2, none⟩)) rfl rfl (fun w => urcfld42_2 _ _ w)) ?_
   refine TL.val rfl rfl rfl (gives_load (v := .int .u32 x.b) rfl rfl urcag35 (fun w1 hw => (hw.bel.cell hbb2).trans (fcs_cell hx hc2 2 _ rfl))) ?_
   refine TL.mv ?_
   refine TL.val rfl rfl rfl (gives_bin rfl rfl rfl (fun w => bin_eql_f (p3) w)) ?_
   refine TL.as_ ?_
   refine TL.end_ (TX.then_ (TC.condF rfl (TC.seq_ (TC.region ?_))))
   refine TL.as_ ?_
   refine TL.end_ (TX.then_ (TC.ret_ (TX.in_ret (TX.in_ret (TX.then_ret (TX.then_ret (TX.in_ret (TX.then_ret ?_))))))))
   exact ret_tmp Try.results29 rfl (fun w1 hw => ⟨by rw [hN, decide_eq_false (fun hh => by cases hh)], hw.bel⟩)
  ·have hnx : chkF l a = chkF (l.drop (i + 1)) x.a := by rw [hch, hdr, chkF, if_neg (by rintro (hh | ⟨_, hh⟩); (exact p1 hh); exact hh p3)]; unfold oth; rw [if_neg p2]
   refine TC.quiet_ (E' := ?_) (by kernel_rfl) (by kernel_rfl) (fun w hw => hw.drawn _) ?_ ?_
   rotate_left
   ·refine TQ.val rfl rfl rfl (gives_move rfl rfl) ?_
    refine TQ.val rfl rfl rfl (gives_move rfl rfl) ?_
    refine TQ.val rfl rfl rfl (gives_at (v := .pointer (some ⟨b2, o2 + i * 3, none⟩)) rfl rfl rfl (fun w => at_el Try.underlying26 urcsz42 hA2 _ _ i hi2 rfl w)) ?_
    refine TQ.val rfl rfl rfl (gives_field (v := .pointer (some ⟨b2, o2 + i * 3 + 1, none⟩)) rfl rfl (fun w => urcfld42_1 _ _ w)) ?_
    refine TQ.val rfl rfl rfl (gives_load (v := .int .u32 x.a) rfl rfl urcag35 (fun w1 hw => (hw.bel.cell hbb2).trans (fcs_cell hx hc2 1 _ rfl))) ?_
    refine TQ.val rfl rfl rfl (gives_move rfl rfl) ?_
    refine TQ.val rfl rfl rfl (gives_move rfl rfl) ?_
    refine TQ.val rfl rfl rfl (gives_at (v := .pointer (some ⟨b2, o2 + i * 3, none⟩)) rfl rfl rfl (fun w => at_el Try.underlying26 urcsz42 hA2 _ _ i hi2 rfl w)) ?_
    refine TQ.val rfl rfl rfl (gives_field (v := .pointer (some ⟨b2, o2 + i * 3 + 2, none⟩)) rfl rfl (fun w => urcfld42_2 _ _ w)) ?_
    refine TQ.val rfl rfl rfl (gives_load (v := .int .u32 x.b) rfl rfl urcag35 (fun w1 hw => (hw.bel.cell hbb2).trans (fcs_cell hx hc2 2 _ rfl))) ?_
    refine TQ.val rfl rfl rfl (gives_bin rfl rfl rfl (fun w => bin_eql_f (p1) w)) ?_
    refine TQ.val rfl rfl rfl (gives_assign rfl rfl) ?_
    exact TQ.end_
   refine TX.then_ (TC.condF rfl (TC.seq_ (TC.region ?_)))
   refine TL.mv ?_
   refine TL.mv ?_
   refine TL.val rfl rfl rfl (gives_at (v := .pointer (some ⟨b2, o2 + i * 3, none⟩)) rfl rfl rfl (fun w => at_el Try.underlying26 urcsz42 hA2 _ _ i hi2 rfl w)) ?_
   refine TL.val rfl rfl rfl (gives_field (v := .pointer (some ⟨b2, o2 + i * 3 + 1, none⟩)) rfl rfl (fun w => urcfld42_1 _ _ w)) ?_
   refine TL.val rfl rfl rfl (gives_load (v := .int .u32 x.a) rfl rfl urcag35 (fun w1 hw => (hw.bel.cell hbb2).trans (fcs_cell hx hc2 1 _ rfl))) ?_
   refine TL.mv ?_
   refine TL.val rfl rfl rfl (gives_bin rfl rfl rfl (fun w => bin_eql_f (p2) w)) ?_
   refine TL.as_ ?_
   refine TL.end_ (TX.then_ (TC.condF rfl (TC.seq_ (TC.region ?_))))
   refine TL.mv ?_
   refine TL.mv ?_
   refine TL.val rfl rfl rfl (gives_at (v := .pointer (some ⟨b2, o2 + i * 3, none⟩)) rfl rfl rfl (fun w => at_el Try.underlying26 urcsz42 hA2 _ _ i hi2 rfl w)) ?_
   refine TL.val rfl rfl rfl (gives_field (v := .pointer (some ⟨b2, o2 + i * 3 + 2, none⟩)) rfl rfl (fun w => urcfld42_2 _ _ w)) ?_
   refine TL.val rfl rfl rfl (gives_load (v := .int .u32 x.b) rfl rfl urcag35 (fun w1 hw => (hw.bel.cell hbb2).trans (fcs_cell hx hc2 2 _ rfl))) ?_
   refine TL.mv ?_
   refine TL.val rfl rfl rfl (gives_bin rfl rfl rfl (fun w => bin_eql_t (p3) w)) ?_
   refine TL.as_ ?_
   refine TL.end_ (TX.then_ (TC.condT rfl (TC.region ?_)))
   refine TL.mv ?_
   refine TL.mv ?_
   refine TL.val rfl rfl rfl (gives_at (v := .pointer (some ⟨b2, o2 + i * 3, none⟩)) rfl rfl rfl (fun w => at_el Try.underlying26 urcsz42 hA2 _ _ i hi2 rfl w)) ?_
   refine TL.val rfl rfl rfl (gives_field (v := .pointer (some ⟨b2, o2 + i * 3 + 1, none⟩)) rfl rfl (fun w => urcfld42_1 _ _ w)) ?_
   refine TL.val rfl rfl rfl (gives_load (v := .int .u32 x.a) rfl rfl urcag35 (fun w1 hw => (hw.bel.cell hbb2).trans (fcs_cell hx hc2 1 _ rfl))) ?_
   refine TL.as_ ?_
   refine TL.end_ (TX.in_normal (TX.in_normal (TX.then_ (TC.region ?_))))
   refine TL.mv ?_
   refine TL.val rfl rfl rfl (gives_bin rfl rfl rfl (fun w => bin_add_ (r := ((i + 1 : Nat) : Int)) (by simp only [IntKind.wrap_i64]; omega) w)) ?_
   refine TL.as_ ?_
   refine TL.end_ ?_
   exact TX.round (⟨(i + 1, x.a), by dsimp only; omega, hnx⟩) (by show l.length - (i + 1) < l.length - i; omega) ⟨rfl, rfl, rfl, rfl, trivial⟩ (fun w1 hw => hw)
  ·have hnx : chkF l a = chkF (l.drop (i + 1)) x.b := by rw [hch, hdr, chkF, if_neg (by rintro (hh | ⟨hh, _⟩); (exact p1 hh); exact hh p2)]; unfold oth; rw [if_pos p2]
   refine TC.quiet_ (E' := ?_) (by kernel_rfl) (by kernel_rfl) (fun w hw => hw.drawn _) ?_ ?_
   rotate_left
   ·refine TQ.val rfl rfl rfl (gives_move rfl rfl) ?_
    refine TQ.val rfl rfl rfl (gives_move rfl rfl) ?_
    refine TQ.val rfl rfl rfl (gives_at (v := .pointer (some ⟨b2, o2 + i * 3, none⟩)) rfl rfl rfl (fun w => at_el Try.underlying26 urcsz42 hA2 _ _ i hi2 rfl w)) ?_
    refine TQ.val rfl rfl rfl (gives_field (v := .pointer (some ⟨b2, o2 + i * 3 + 1, none⟩)) rfl rfl (fun w => urcfld42_1 _ _ w)) ?_
    refine TQ.val rfl rfl rfl (gives_load (v := .int .u32 x.a) rfl rfl urcag35 (fun w1 hw => (hw.bel.cell hbb2).trans (fcs_cell hx hc2 1 _ rfl))) ?_
    refine TQ.val rfl rfl rfl (gives_move rfl rfl) ?_
    refine TQ.val rfl rfl rfl (gives_move rfl rfl) ?_
    refine TQ.val rfl rfl rfl (gives_at (v := .pointer (some ⟨b2, o2 + i * 3, none⟩)) rfl rfl rfl (fun w => at_el Try.underlying26 urcsz42 hA2 _ _ i hi2 rfl w)) ?_
    refine TQ.val rfl rfl rfl (gives_field (v := .pointer (some ⟨b2, o2 + i * 3 + 2, none⟩)) rfl rfl (fun w => urcfld42_2 _ _ w)) ?_
    refine TQ.val rfl rfl rfl (gives_load (v := .int .u32 x.b) rfl rfl urcag35 (fun w1 hw => (hw.bel.cell hbb2).trans (fcs_cell hx hc2 2 _ rfl))) ?_
    refine TQ.val rfl rfl rfl (gives_bin rfl rfl rfl (fun w => bin_eql_f (p1) w)) ?_
    refine TQ.val rfl rfl rfl (gives_assign rfl rfl) ?_
    exact TQ.end_
   refine TX.then_ (TC.condF rfl (TC.seq_ (TC.region ?_)))
   refine TL.mv ?_
   refine TL.mv ?_
   refine TL.val rfl rfl rfl (gives_at (v := .pointer (some ⟨b2, o2 + i * 3, none⟩)) rfl rfl rfl (fun w => at_el Try.underlying26 urcsz42 hA2 _ _ i hi2 rfl w)) ?_
   refine TL.val rfl rfl rfl (gives_field (v := .pointer (some ⟨b2, o2 + i * 3 + 1, none⟩)) rfl rfl (fun w => urcfld42_1 _ _ w)) ?_
   refine TL.val rfl rfl rfl (gives_load (v := .int .u32 x.a) rfl rfl urcag35 (fun w1 hw => (hw.bel.cell hbb2).trans (fcs_cell hx hc2 1 _ rfl))) ?_
   refine TL.mv ?_
   refine TL.val rfl rfl rfl (gives_bin rfl rfl rfl (fun w => bin_eql_t (p2) w)) ?_
   refine TL.as_ ?_
   refine TL.end_ (TX.then_ (TC.condT rfl (TC.region ?_)))
   refine TL.mv ?_
   refine TL.mv ?_
   refine TL.val rfl rfl rfl (gives_at (v := .pointer (some ⟨b2, o2 + i * 3, none⟩)) rfl rfl rfl (fun w => at_el Try.underlying26 urcsz42 hA2 _ _ i hi2 rfl w)) ?_
   refine TL.val rfl rfl rfl (gives_field (v := .pointer (some ⟨b2, o2 + i * 3 + 2, none⟩)) rfl rfl (fun w => urcfld42_2 _ _ w)) ?_
   refine TL.val rfl rfl rfl (gives_load (v := .int .u32 x.b) rfl rfl urcag35 (fun w1 hw => (hw.bel.cell hbb2).trans (fcs_cell hx hc2 2 _ rfl))) ?_
   refine TL.as_ ?_
   refine TL.end_ (TX.in_normal (TX.in_normal (TX.then_ (TC.region ?_))))
   refine TL.mv ?_
   refine TL.val rfl rfl rfl (gives_bin rfl rfl rfl (fun w => bin_add_ (r := ((i + 1 : Nat) : Int)) (by simp only [IntKind.wrap_i64]; omega) w)) ?_
   refine TL.as_ ?_
   refine TL.end_ ?_
   exact TX.round (⟨(i + 1, x.b), by dsimp only; omega, hnx⟩) (by show l.length - (i + 1) < l.length - i; omega) ⟨rfl, rfl, rfl, rfl, trivial⟩ (fun w1 hw => hw)
 ·have q11 := of_decide_eq_false h11
  refine TL.end_ (TX.then_ (TC.condF rfl (TC.exit_ (TX.then_exit (TX.then_exit (TX.in_same (TX.then_ (TC.seq_ (TC.region ?_)))))))))
  refine TL.mv ?_
  refine TL.mv ?_
  refine TL.vsplit rfl rfl rfl (gives_bin rfl rfl rfl (fun w => bin_eql w)) (fun h54 => ?_) (fun h54 => ?_)
  ·have q54 := of_decide_eq_true h54
   refine TL.as_ ?_
   refine TL.end_ (TX.then_ (TC.ret_ ?_))
   have hE : chkF l a = some at0 := by rw [hch, List.drop_eq_nil_of_le (by omega)]; rfl
   exact ret_tmp Try.results29 rfl (fun w1 hw => ⟨by rw [hE, decide_eq_true (by rw [q54])], hw.bel⟩)
  ·have q54 := of_decide_eq_false h54
   refine TL.as_ ?_
   refine TL.end_ (TX.then_ (TC.ret_ ?_))
   have hE : chkF l a = some at0 := by rw [hch, List.drop_eq_nil_of_le (by omega)]; rfl
   exact ret_tmp Try.results29 rfl (fun w1 hw => ⟨by rw [hE, decide_eq_false (fun hh => q54 (Option.some.inj hh))], hw.bel⟩)
set_option maxHeartbeats 1000000 in
theorem radd_any (A0 : Option Addr) (n0 c0 : Nat) (l : List Fc) (w : World) (hr : Reads w w.heap.size 3 A0 n0 (fcs l)) (hl : l.length = n0) (hnc : l.length ≤ c0) (x : Fc) :
  Calls Try.prog 31 #[.slice A0 n0 c0, .agg x.cells.toArray] w fun e w' => ∃ y : {y : (Option Addr × Nat) × List Fc × Int // AddOk l x y.2 ∧ y.2.1.length ≤ y.1.2 ∧ y.1.2 ≤ maxLen}, e = .returned (.tuple #[.slice y.1.1.1 y.1.2.1.length y.1.1.2, .int .i64 y.1.2.2]) ∧ Pm w [.row (.slice y.1.1.1 y.1.2.1.length y.1.1.2) 42 3 y.1.2.1.length (fcs y.1.2.1)] w' := by
 subst hl
 refine begin_ (vs := [.slice A0 l.length c0, .agg #[.int .i64 x.id, .int .u32 x.a, .int .u32 x.b]]) Try.func31 rfl rfl rfl ?_ (Pm.start w)
 refine TC.seq_ (TC.region ?_)
 refine TL.pnew rfl rfl rfl (exec_box (cs := [.int .i64 x.id, .int .u32 x.a, .int .u32 x.b]) rfl rfl rfl) (fun g3 => ?_)
 refine TL.as_ ?_
 refine TL.as_ ?_
 refine TL.end_ (TX.then_ (TC.seq_ (TC.seq_ ?_)))
 have hway : ¬ validF l ∨ (validF l ∧ x.id < 0) ∨ (validF l ∧ ¬ x.id < 0 ∧ x.a = x.b) ∨ (validF l ∧ ¬ x.id < 0 ∧ x.a ≠ x.b) := by
  by_cases p1 : validF l <;> by_cases p2 : x.id < 0 <;> by_cases p3 : x.a = x.b <;> simp [p1, p2, p3]
 rcases hway with p1 | ⟨p1, p2⟩ | ⟨p1, p2, p3⟩ | ⟨p1, p2, p3⟩
 ·refine TC.region ?_
  refine TL.mv ?_
  refine TL.pcall1 (r := .bool false) rfl rfl rfl rfl rfl Try.func23 urcnm23 urcbd23 (fun w1 hw => rvalid_is A0 _ c0 l w1 ((hr.below hw.bel).more hw.bel.size) rfl (decide_eq_false p1)) ?_
  iterate 13 (first | refine TL.of ?_ | refine TL.mv ?_ | refine TL.pk ?_ | refine TL.val rfl rfl rfl (gives_boolnot rfl rfl) ?_)
  refine TL.end_ (TX.then_ (TC.condT rfl (TC.seq_ (TC.region ?_))))
  refine TL.as_ ?_
  refine TL.as_ ?_
  refine TL.end_ (TX.then_ (TC.ret_ (TX.then_ret ?_)))
  exact ret_pair Try.results31 rfl rfl (fun w1 hw => ⟨⟨((none, 0), ([], 1)), .inl ⟨(fun hh => p1 hh.1), rfl⟩, Nat.le_refl _, Nat.zero_le _⟩, rfl, (hw.pick [] (by decide) rfl).nilrow _ _⟩)
 ·refine TC.region ?_
  refine TL.mv ?_
  refine TL.pcall1 (r := .bool true) rfl rfl rfl rfl rfl Try.func23 urcnm23 urcbd23 (fun w1 hw => rvalid_is A0 _ c0 l w1 ((hr.below hw.bel).more hw.bel.size) rfl (decide_eq_true p1)) ?_
  refine TL.val rfl rfl rfl (gives_boolnot rfl rfl) ?_
  refine TL.mv ?_
  refine TL.gu ?_
  refine TL.val rfl rfl rfl (gives_field (v := .pointer (some ⟨g3, 0, none⟩)) rfl rfl (fun w => urcfld42_0 _ _ w)) ?_
  refine TL.gu ?_
  refine TL.val rfl rfl rfl (pm_load (k := 0) (i := 0) rfl rfl urcag3 rfl rfl) ?_
  refine TL.gu ?_
  refine TL.val rfl rfl rfl (gives_bin rfl rfl rfl (fun w => bin_lss_t (p2) w)) ?_
  iterate 8 (first | refine TL.of ?_ | refine TL.pk ?_ | refine TL.mv ?_)
  refine TL.end_ (TX.then_ (TC.condT rfl (TC.seq_ (TC.region ?_))))
  refine TL.as_ ?_
  refine TL.as_ ?_
  refine TL.end_ (TX.then_ (TC.ret_ (TX.then_ret ?_)))
  exact ret_pair Try.results31 rfl rfl (fun w1 hw => ⟨⟨((none, 0), ([], 1)), .inl ⟨(fun hh => by have := hh.2.1; omega), rfl⟩, Nat.le_refl _, Nat.zero_le _⟩, rfl, (hw.pick [] (by decide) rfl).nilrow _ _⟩)
 ·refine TC.region ?_
  refine TL.mv ?_
  refine TL.pcall1 (r := .bool true) rfl rfl rfl rfl rfl Try.func23 urcnm23 urcbd23 (fun w1 hw => rvalid_is A0 _ c0 l w1 ((hr.below hw.bel).more hw.bel.size) rfl (decide_eq_true p1)) ?_
  refine TL.val rfl rfl rfl (gives_boolnot rfl rfl) ?_
  refine TL.mv ?_
  refine TL.gu ?_
  refine TL.val rfl rfl rfl (gives_field (v := .pointer (some ⟨g3, 0, none⟩)) rfl rfl (fun w => urcfld42_0 _ _ w)) ?_
  refine TL.gu ?_
  refine TL.val rfl rfl rfl (pm_load (k := 0) (i := 0) rfl rfl urcag3 rfl rfl) ?_
  refine TL.gu ?_
  refine TL.val rfl rfl rfl (gives_bin rfl rfl rfl (fun w => bin_lss_f (p2) w)) ?_
  refine TL.pk ?_
  refine TL.mv ?_
  refine TL.gu ?_
  refine TL.val rfl rfl rfl (gives_field (v := .pointer (some ⟨g3, 1, none⟩)) rfl rfl (fun w => urcfld42_1 _ _ w)) ?_
  refine TL.gu ?_
  refine TL.val rfl rfl rfl (pm_load (k := 0) (i := 1) rfl rfl urcag35 rfl rfl) ?_
  refine TL.gu ?_
  refine TL.val rfl rfl rfl (gives_field (v := .pointer (some ⟨g3, 2, none⟩)) rfl rfl (fun w => urcfld42_2 _ _ w)) ?_
  refine TL.gu ?_
  refine TL.val rfl rfl rfl (pm_load (k := 0) (i := 2) rfl rfl urcag35 rfl rfl) ?_
  refine TL.gu ?_
  refine TL.val rfl rfl rfl (gives_bin rfl rfl rfl (fun w => bin_eql_t (p3) w)) ?_
  refine TL.pk ?_
  refine TL.end_ (TX.then_ (TC.condT rfl (TC.seq_ (TC.region ?_))))
  refine TL.as_ ?_
  refine TL.as_ ?_
  refine TL.end_ (TX.then_ (TC.ret_ (TX.then_ret ?_)))
  exact ret_pair Try.results31 rfl rfl (fun w1 hw => ⟨⟨((none, 0), ([], 1)), .inl ⟨(fun hh => hh.2.2 p3), rfl⟩, Nat.le_refl _, Nat.zero_le _⟩, rfl, (hw.pick [] (by decide) rfl).nilrow _ _⟩)
 ·have hl1 : l.length ≤ 1024 := p1.1
  refine TC.region ?_
  refine TL.mv ?_
  refine TL.pcall1 (r := .bool true) rfl rfl rfl rfl rfl Try.func23 urcnm23 urcbd23 (fun w1 hw => rvalid_is A0 _ c0 l w1 ((hr.below hw.bel).more hw.bel.size) rfl (decide_eq_true p1)) ?_
  refine TL.val rfl rfl rfl (gives_boolnot rfl rfl) ?_
  refine TL.mv ?_
  refine TL.gu ?_
  refine TL.val rfl rfl rfl (gives_field (v := .pointer (some ⟨g3, 0, none⟩)) rfl rfl (fun w => urcfld42_0 _ _ w)) ?_
  refine TL.gu ?_
  refine TL.val rfl rfl rfl (pm_load (k := 0) (i := 0) rfl rfl urcag3 rfl rfl) ?_
  refine TL.gu ?_
  refine TL.val rfl rfl rfl (gives_bin rfl rfl rfl (fun w => bin_lss_f (p2) w)) ?_
  refine TL.pk ?_
  refine TL.mv ?_
  refine TL.gu ?_
  refine TL.val rfl rfl rfl (gives_field (v := .pointer (some ⟨g3, 1, none⟩)) rfl rfl (fun w => urcfld42_1 _ _ w)) ?_
  refine TL.gu ?_
  refine TL.val rfl rfl rfl (pm_load (k := 0) (i := 1) rfl rfl urcag35 rfl rfl) ?_
  refine TL.gu ?_
  refine TL.val rfl rfl rfl (gives_field (v := .pointer (some ⟨g3, 2, none⟩)) rfl rfl (fun w => urcfld42_2 _ _ w)) ?_
  refine TL.gu ?_
  refine TL.val rfl rfl rfl (pm_load (k := 0) (i := 2) rfl rfl urcag35 rfl rfl) ?_
  refine TL.gu ?_
  refine TL.val rfl rfl rfl (gives_bin rfl rfl rfl (fun w => bin_eql_f (p3) w)) ?_
  refine TL.pk ?_
  refine TL.end_ (TX.then_ (TC.condF rfl (TC.skip_ (TX.then_ (TC.seq_ (TC.region ?_))))))
  refine TL.as_ ?_
  refine TL.end_ (TX.then_ (TC.seq_ (TC.block ?_)))
  refine TC.loop_ (α := {k : Nat // k ≤ l.length ∧ ∀ (p : Nat) (u : Fc), l[p]? = some u → p < k → u.id < x.id}) (fun y => [(0, .slice A0 l.length c0), (3, .pointer (some ⟨g3, 0, none⟩)), (6, .int .i64 ((y.1 : Nat) : Int))]) (fun y => Pm w [.blk g3 42 [.int .i64 x.id, .int .u32 x.a, .int .u32 x.b]]) (fun y => l.length - y.1) (⟨0, Nat.zero_le _, fun p u _ hp => absurd hp (Nat.not_lt_zero p)⟩) ⟨rfl, rfl, rfl, trivial⟩ (fun w1 hw => hw) ?_
  rintro ⟨k, hk, hlo⟩
  dsimp only at hk hlo ⊢
  refine TC.seq_ (TC.seq_ ?_)
  have hway4 : l.length ≤ k ∨ (∃ z, l[k]? = some z ∧ z.id < x.id) ∨ (∃ z, l[k]? = some z ∧ ¬ z.id < x.id) := by
   rcases Nat.lt_or_ge k l.length with hh | hh
   ·rcases Classical.em (l[k].id < x.id) with h9 | h9
    ·exact .inr (.inl ⟨_, List.getElem?_eq_getElem hh, h9⟩)
    ·exact .inr (.inr ⟨_, List.getElem?_eq_getElem hh, h9⟩)
   ·exact .inl hh
  rcases hway4 with p4 | ⟨z, hz, p5⟩ | ⟨z, hz, p5⟩
  ·refine TC.quiet_ (E' := ?_) (by kernel_rfl) (by kernel_rfl) (fun w hw => hw.drawn _) ?_ ?_
   rotate_left
   ·refine TQ.val rfl rfl rfl (gives_move rfl rfl) ?_
    refine TQ.val rfl rfl rfl (gives_move rfl rfl) ?_
    refine TQ.val rfl rfl rfl (gives_len rfl Try.underlying26 rfl) ?_
    refine TQ.val rfl rfl rfl (gives_bin rfl rfl rfl (fun w => bin_lss_f (by omega) w)) ?_
    iterate 10 (first | refine TQ.off rfl rfl rfl rfl rfl rfl ?_ | refine TQ.val rfl rfl rfl (gives_move rfl rfl) ?_ | refine TQ.val rfl rfl rfl (gives_pick rfl rfl rfl) ?_)
    exact TQ.end_
   refine TX.then_ (TC.condF rfl (TC.exit_ (TX.then_exit (TX.then_exit (TX.in_same (TX.then_ (TC.seq_ (TC.seq_ ?_))))))))
   ·obtain ⟨hLb, hnx⟩ := lb_stop p1.asc hk hlo (fun u hu => absurd (List.getElem?_eq_some_iff.1 hu).1 (by omega))
    refine TC.quiet_ (E' := ?_) (by kernel_rfl) (by kernel_rfl) (fun w hw => hw.drawn _) ?_ ?_
    rotate_left
    ·refine TQ.val rfl rfl rfl (gives_move rfl rfl) ?_
     refine TQ.val rfl rfl rfl (gives_move rfl rfl) ?_
     refine TQ.val rfl rfl rfl (gives_len rfl Try.underlying26 rfl) ?_
     refine TQ.val rfl rfl rfl (gives_bin rfl rfl rfl (fun w => bin_lss_f (by omega) w)) ?_
     iterate 10 (first | refine TQ.off rfl rfl rfl rfl rfl rfl ?_ | refine TQ.val rfl rfl rfl (gives_move rfl rfl) ?_ | refine TQ.val rfl rfl rfl (gives_pick rfl rfl rfl) ?_)
     exact TQ.end_
    refine TX.then_ (TC.condF rfl (TC.skip_ (TX.then_ (TC.seq_ (TC.seq_ (TC.region ?_))))))
    refine TL.mv ?_
    refine TL.val rfl rfl rfl (gives_len rfl Try.underlying26 rfl) ?_
    refine TL.vsplit rfl rfl rfl (gives_bin rfl rfl rfl (fun w => bin_geq w)) (fun h54 => ?_) (fun h54 => ?_)
    ·have q54 := of_decide_eq_true h54
     refine TL.end_ (TX.then_ (TC.condT rfl (TC.seq_ (TC.region ?_))))
     refine TL.as_ ?_
     refine TL.as_ ?_
     refine TL.end_ (TX.then_ (TC.ret_ (TX.then_ret ?_)))
     exact ret_pair Try.results31 rfl rfl (fun w1 hw => ⟨⟨((none, 0), ([], 5)), .inr ⟨⟨p1, by omega, p3⟩, .inr (.inl ⟨hnx, by omega, rfl⟩)⟩, Nat.le_refl _, Nat.zero_le _⟩, rfl, (hw.pick [] (by decide) rfl).nilrow _ _⟩)
    ·have q54 := of_decide_eq_false h54
     refine TL.end_ (TX.then_ (TC.condF rfl (TC.skip_ (TX.then_ (TC.seq_ ?_)))))
     refine TC.held (ls := #[Ff,Ff,Ff,Ff,Ff,Ff,Ff,Ff,Ff,Ff,Ff,Ff,Ff]) (Pm w [.blk g3 42 [.int .i64 x.id, .int .u32 x.a, .int .u32 x.b]]) (by kernel_rfl) rfl rfl (fun w hw => hw.drawn _) ?_
     refine TH.tk (listed' := #[Tt,Ff,Ff,Ff,Ff,Ff,Ff,Ff,Ff,Ff,Ff,Ff,Ff]) 0 rfl rfl rfl (gives_move rfl rfl) (fun w1 hw => hw) ?_
     refine TH.tk (listed' := #[Tt,Tt,Ff,Ff,Ff,Ff,Ff,Ff,Ff,Ff,Ff,Ff,Ff]) 1 rfl rfl rfl (gives_move rfl rfl) (fun w1 hw => hw) ?_
     refine TH.tk (listed' := #[Tt,Tt,Tt,Ff,Ff,Ff,Ff,Ff,Ff,Ff,Ff,Ff,Ff]) 2 rfl rfl rfl (gives_sliceH (v := .slice A0 k c0) rfl rfl rfl (fun w => cut_hi Try.underlying26 urcsz42 _ _ _ k rfl (by omega) w)) (fun w1 hw => hw) ?_
     refine TH.tk (listed' := #[Tt,Tt,Tt,Ff,Tt,Ff,Ff,Ff,Ff,Ff,Ff,Ff,Ff]) 4 rfl rfl rfl (pm_loadV (k := 0) (i := 0) (n := 3) (v := .agg #[.int .i64 x.id, .int .u32 x.a, .int .u32 x.b]) rfl rfl urcag42 urcsz42 rfl (by show 3 ≤ 3; decide) rfl) (fun w1 hw => hw) ?_
     refine TH.tk (listed' := #[Tt,Tt,Tt,Ff,Tt,Ff,Ff,Tt,Ff,Ff,Ff,Ff,Ff]) 7 rfl rfl rfl (gives_move rfl rfl) (fun w1 hw => hw) ?_
     refine TH.tk (listed' := #[Tt,Tt,Tt,Ff,Tt,Ff,Ff,Tt,Tt,Ff,Ff,Ff,Ff]) 8 rfl rfl rfl (gives_move rfl rfl) (fun w1 hw => hw) ?_
     refine TH.tk (listed' := #[Tt,Tt,Tt,Ff,Tt,Ff,Ff,Tt,Tt,Tt,Ff,Ff,Ff]) 9 rfl rfl rfl (gives_sliceL (v := .slice (if c0 = k then A0 else A0.map (·.add (k * 3))) (l.length - k) (c0 - k)) rfl rfl rfl (fun w => cut_lo Try.underlying26 urcsz42 _ _ _ k rfl (by omega) w)) (fun w1 hw => hw) ?_
     refine TH.two' (listed1 := #[Tt,Tt,Tt,Tt,Tt,Ff,Ff,Tt,Tt,Tt,Ff,Ff,Ff]) (listed2 := #[Tt,Tt,Tt,Ff,Tt,Tt,Ff,Tt,Tt,Tt,Ff,Ff,Ff]) 3 5 rfl rfl (by kernel_rfl) rfl rfl ?_ ?_
     ·refine TL.nilrow 42 3 ?_
      refine TL.appendT (k := 0) rfl rfl rfl rfl Try.underlying26 urcel26 rfl rfl rfl (fun w1 hw => ⟨_, rd_take ((hr.below hw.bel).more hw.bel.size) (by omega)⟩) (fcs_one _) (by show _ * 16 ≤ _; omega) (k) (by omega) (fcs (l.take k)) (rfl) (fun A58 c58 hA581 hA582 => ?_)
      refine TL.end_ ?_
      refine TX.held (fun w1 hw => hw.pick [1] (by decide) rfl) ?_
      refine TH.only' (listed' := #[Tt,Tt,Tt,Tt,Tt,Tt,Ff,Tt,Tt,Tt,Ff,Ff,Ff]) 5 rfl (by kernel_rfl) rfl ?_
      refine TL.prowS (e := 42) (size := 3) (cs := [.int .i64 x.id, .int .u32 x.a, .int .u32 x.b]) rfl rfl rfl rfl rfl (fun w => urcbs26_1_44646 _ _ _ w) (by decide) rfl (fun g60 => ?_)
      refine TL.end_ ?_
      refine TX.held (fun w1 hw => hw.pick [2] (by decide) rfl) ?_
      refine TH.only' (listed' := #[Tt,Tt,Tt,Tt,Tt,Tt,Tt,Tt,Tt,Tt,Ff,Ff,Ff]) 6 rfl (by kernel_rfl) rfl ?_
      refine TL.appendT (k := 1) rfl rfl rfl rfl Try.underlying26 urcel26 rfl rfl rfl (fun w1 hw => pm_reads hw (k := 0) rfl) (fc_one x) (by show _ * 16 ≤ _; omega) (k + 1) (rfl) (fcs (l.take k ++ [x])) (by rw [fcs_app]; rfl) (fun A61 c61 hA611 hA612 => ?_)
      refine TL.end_ ?_
      refine TX.held (fun w1 hw => hw.pick [2] (by decide) rfl) ?_
      refine TH.only' (listed' := #[Tt,Tt,Tt,Tt,Tt,Tt,Tt,Tt,Tt,Tt,Tt,Ff,Ff]) 10 rfl (by kernel_rfl) rfl ?_
      refine TL.appendT (k := 1) rfl rfl rfl rfl Try.underlying26 urcel26 rfl rfl rfl (fun w1 hw => ⟨_, rd_drop ((hr.below hw.bel).more hw.bel.size) (by omega) hnc⟩) (fcs_one _) (by show _ * 16 ≤ _; omega) (l.length + 1) (by omega) (fcs (l.take k ++ x :: l.drop k)) (by rw [← fcs_app, List.append_assoc]; rfl) (fun A65 c65 hA651 hA652 => ?_)
      refine TL.end_ ?_
      refine TX.held (fun w1 hw => hw.pick [2] (by decide) rfl) ?_
      refine TH.tk (listed' := #[Tt,Tt,Tt,Tt,Tt,Tt,Tt,Tt,Tt,Tt,Tt,Tt,Ff]) 11 rfl rfl rfl (gives_assign rfl rfl) (fun w1 hw => hw.pick [2] (by decide) rfl) ?_
      refine TH.tk (listed' := #[Tt,Tt,Tt,Tt,Tt,Tt,Tt,Tt,Tt,Tt,Tt,Tt,Tt]) 12 rfl rfl rfl (gives_assign rfl rfl) (fun w1 hw => hw.pick [2] (by decide) rfl) ?_
      refine TH.done (by kernel_rfl) ?_
      refine TX.then_ (TC.ret_ ?_)
      have hle : (l.take k ++ x :: l.drop k).length = l.length + 1 := by rw [List.length_append, List.length_cons, List.length_take, List.length_drop]; omega
      exact ret_pair Try.results31 rfl rfl (fun w1 hw => ⟨⟨((A65, c65), (l.take k ++ x :: l.drop k, 0)), AddOk.done ⟨p1, by omega, p3⟩ hnx (by omega) ⟨k, hLb, rfl⟩, by dsimp only; omega, hA652⟩, by dsimp only; rw [hle], by dsimp only; rw [hle]; exact hw.pick [1] (by decide) rfl⟩)
     ·refine TL.prowS (e := 42) (size := 3) (cs := [.int .i64 x.id, .int .u32 x.a, .int .u32 x.b]) rfl rfl rfl rfl rfl (fun w => urcbs26_1_44646 _ _ _ w) (by decide) rfl (fun g60 => ?_)
      refine TL.end_ ?_
      refine TX.held (fun w1 hw => hw.pick [1] (by decide) rfl) ?_
      refine TH.only' (listed' := #[Tt,Tt,Tt,Tt,Tt,Tt,Ff,Tt,Tt,Tt,Ff,Ff,Ff]) 3 rfl (by kernel_rfl) rfl ?_
      refine TL.nilrow 42 3 ?_
      refine TL.appendT (k := 0) rfl rfl rfl rfl Try.underlying26 urcel26 rfl rfl rfl (fun w1 hw => ⟨_, rd_take ((hr.below hw.bel).more hw.bel.size) (by omega)⟩) (fcs_one _) (by show _ * 16 ≤ _; omega) (k) (by omega) (fcs (l.take k)) (rfl) (fun A58 c58 hA581 hA582 => ?_)
      refine TL.end_ ?_
      refine TX.held (fun w1 hw => hw.pick [2] (by decide) rfl) ?_
      refine TH.only' (listed' := #[Tt,Tt,Tt,Tt,Tt,Tt,Tt,Tt,Tt,Tt,Ff,Ff,Ff]) 6 rfl (by kernel_rfl) rfl ?_
      refine TL.appendT (k := 0) rfl rfl rfl rfl Try.underlying26 urcel26 rfl rfl rfl (fun w1 hw => pm_reads hw (k := 1) rfl) (fc_one x) (by show _ * 16 ≤ _; omega) (k + 1) (rfl) (fcs (l.take k ++ [x])) (by rw [fcs_app]; rfl) (fun A61 c61 hA611 hA612 => ?_)
      refine TL.end_ ?_
      refine TX.held (fun w1 hw => hw.pick [2] (by decide) rfl) ?_
      refine TH.only' (listed' := #[Tt,Tt,Tt,Tt,Tt,Tt,Tt,Tt,Tt,Tt,Tt,Ff,Ff]) 10 rfl (by kernel_rfl) rfl ?_
      refine TL.appendT (k := 0) rfl rfl rfl rfl Try.underlying26 urcel26 rfl rfl rfl (fun w1 hw => ⟨_, rd_drop ((hr.below hw.bel).more hw.bel.size) (by omega) hnc⟩) (fcs_one _) (by show _ * 16 ≤ _; omega) (l.length + 1) (by omega) (fcs (l.take k ++ x :: l.drop k)) (by rw [← fcs_app, List.append_assoc]; rfl) (fun A65 c65 hA651 hA652 => ?_)
      refine TL.end_ ?_
      refine TX.held (fun w1 hw => hw.pick [2] (by decide) rfl) ?_
      refine TH.tk (listed' := #[Tt,Tt,Tt,Tt,Tt,Tt,Tt,Tt,Tt,Tt,Tt,Tt,Ff]) 11 rfl rfl rfl (gives_assign rfl rfl) (fun w1 hw => hw.pick [2] (by decide) rfl) ?_
      refine TH.tk (listed' := #[Tt,Tt,Tt,Tt,Tt,Tt,Tt,Tt,Tt,Tt,Tt,Tt,Tt]) 12 rfl rfl rfl (gives_assign rfl rfl) (fun w1 hw => hw.pick [2] (by decide) rfl) ?_
      refine TH.done (by kernel_rfl) ?_
      refine TX.then_ (TC.ret_ ?_)
      have hle : (l.take k ++ x :: l.drop k).length = l.length + 1 := by rw [List.length_append, List.length_cons, List.length_take, List.length_drop]; omega
      exact ret_pair Try.results31 rfl rfl (fun w1 hw => ⟨⟨((A65, c65), (l.take k ++ x :: l.drop k, 0)), AddOk.done ⟨p1, by omega, p3⟩ hnx (by omega) ⟨k, hLb, rfl⟩, by dsimp only; omega, hA652⟩, by dsimp only; rw [hle], by dsimp only; rw [hle]; exact hw.pick [0] (by decide) rfl⟩)
  ·have hkl := (List.getElem?_eq_some_iff.1 hz).1
   obtain ⟨b2, o2, hA2, hbb2, hc2⟩ := hr.ad (by omega) (by decide)
   have hlo2 : ∀ (p : Nat) (u : Fc), l[p]? = some u → p < k + 1 → u.id < x.id := fun p u hu hp => by
    rcases Nat.lt_or_ge p k with hh | hh
    ·exact hlo p u hu hh
    ·obtain rfl : p = k := by omega
     rw [hz] at hu
     cases hu
     exact p5
   refine TC.quiet_ (E' := ?_) (by kernel_rfl) (by kernel_rfl) (fun w hw => hw.drawn _) ?_ ?_
   rotate_left
   ·refine TQ.val rfl rfl rfl (gives_move rfl rfl) ?_
    refine TQ.val rfl rfl rfl (gives_move rfl rfl) ?_
    refine TQ.val rfl rfl rfl (gives_len rfl Try.underlying26 rfl) ?_
    refine TQ.val rfl rfl rfl (gives_bin rfl rfl rfl (fun w => bin_lss_t (by omega) w)) ?_
    iterate 6 (first | refine TQ.val rfl rfl rfl (gives_move rfl rfl) ?_ | refine TQ.on rfl rfl rfl ?_)
    refine TQ.val rfl rfl rfl (gives_at (v := .pointer (some ⟨b2, o2 + k * 3, none⟩)) rfl rfl rfl (fun w => at_el Try.underlying26 urcsz42 hA2 _ _ k hkl rfl w)) ?_
    refine TQ.on rfl rfl rfl ?_
    refine TQ.val rfl rfl rfl (gives_field (v := .pointer (some ⟨b2, o2 + k * 3 + 0, none⟩)) rfl rfl (fun w => urcfld42_0 _ _ w)) ?_
    refine TQ.on rfl rfl rfl ?_
    refine TQ.val rfl rfl rfl (gives_load (v := .int .i64 z.id) rfl rfl urcag3 (fun w1 hw => (hw.bel.cell hbb2).trans (fcs_cell hz hc2 0 _ rfl))) ?_
    refine TQ.on rfl rfl rfl ?_
    refine TQ.val rfl rfl rfl (gives_field (v := .pointer (some ⟨g3, 0, none⟩)) rfl rfl (fun w => urcfld42_0 _ _ w)) ?_
    refine TQ.on rfl rfl rfl ?_
    refine TQ.val rfl rfl rfl (pm_load (k := 0) (i := 0) rfl rfl urcag3 rfl rfl) ?_
    refine TQ.on rfl rfl rfl ?_
    refine TQ.val rfl rfl rfl (gives_bin rfl rfl rfl (fun w => bin_lss_t (p5) w)) ?_
    refine TQ.val rfl rfl rfl (gives_pick rfl rfl rfl) ?_
    exact TQ.end_
   refine TX.then_ (TC.condT rfl (TC.skip_ (TX.then_ (TC.block (TC.region ?_)))))
   refine TL.mv ?_
   refine TL.val rfl rfl rfl (gives_bin rfl rfl rfl (fun w => bin_add_ (r := ((k + 1 : Nat) : Int)) (by simp only [IntKind.wrap_i64]; omega) w)) ?_
   refine TL.as_ ?_
   refine TL.end_ (TX.in_normal ?_)
   exact TX.round (⟨k + 1, by omega, hlo2⟩) (by show l.length - (k + 1) < l.length - k; omega) ⟨rfl, rfl, rfl, trivial⟩ (fun w1 hw => hw)
  ·have hkl := (List.getElem?_eq_some_iff.1 hz).1
   obtain ⟨b2, o2, hA2, hbb2, hc2⟩ := hr.ad (by omega) (by decide)
   refine TC.quiet_ (E' := ?_) (by kernel_rfl) (by kernel_rfl) (fun w hw => hw.drawn _) ?_ ?_
   rotate_left
   ·refine TQ.val rfl rfl rfl (gives_move rfl rfl) ?_
    refine TQ.val rfl rfl rfl (gives_move rfl rfl) ?_
    refine TQ.val rfl rfl rfl (gives_len rfl Try.underlying26 rfl) ?_
    refine TQ.val rfl rfl rfl (gives_bin rfl rfl rfl (fun w => bin_lss_t (by omega) w)) ?_
    iterate 6 (first | refine TQ.val rfl rfl rfl (gives_move rfl rfl) ?_ | refine TQ.on rfl rfl rfl ?_)
    refine TQ.val rfl rfl rfl (gives_at (v := .pointer (some ⟨b2, o2 + k * 3, none⟩)) rfl rfl rfl (fun w => at_el Try.underlying26 urcsz42 hA2 _ _ k hkl rfl w)) ?_
    refine TQ.on rfl rfl rfl ?_
    refine TQ.val rfl rfl rfl (gives_field (v := .pointer (some ⟨b2, o2 + k * 3 + 0, none⟩)) rfl rfl (fun w => urcfld42_0 _ _ w)) ?_
    refine TQ.on rfl rfl rfl ?_
    refine TQ.val rfl rfl rfl (gives_load (v := .int .i64 z.id) rfl rfl urcag3 (fun w1 hw => (hw.bel.cell hbb2).trans (fcs_cell hz hc2 0 _ rfl))) ?_
    refine TQ.on rfl rfl rfl ?_
    refine TQ.val rfl rfl rfl (gives_field (v := .pointer (some ⟨g3, 0, none⟩)) rfl rfl (fun w => urcfld42_0 _ _ w)) ?_
    refine TQ.on rfl rfl rfl ?_
    refine TQ.val rfl rfl rfl (pm_load (k := 0) (i := 0) rfl rfl urcag3 rfl rfl) ?_
    refine TQ.on rfl rfl rfl ?_
    refine TQ.val rfl rfl rfl (gives_bin rfl rfl rfl (fun w => bin_lss_f (p5) w)) ?_
    refine TQ.val rfl rfl rfl (gives_pick rfl rfl rfl) ?_
    exact TQ.end_
   refine TX.then_ (TC.condF rfl (TC.exit_ (TX.then_exit (TX.then_exit (TX.in_same (TX.then_ (TC.seq_ (TC.seq_ ?_))))))))
   rcases Classical.em (z.id = x.id) with p6 | p6
   ·refine TC.quiet_ (E' := ?_) (by kernel_rfl) (by kernel_rfl) (fun w hw => hw.drawn _) ?_ ?_
    rotate_left
    ·refine TQ.val rfl rfl rfl (gives_move rfl rfl) ?_
     refine TQ.val rfl rfl rfl (gives_move rfl rfl) ?_
     refine TQ.val rfl rfl rfl (gives_len rfl Try.underlying26 rfl) ?_
     refine TQ.val rfl rfl rfl (gives_bin rfl rfl rfl (fun w => bin_lss_t (by omega) w)) ?_
     iterate 6 (first | refine TQ.val rfl rfl rfl (gives_move rfl rfl) ?_ | refine TQ.on rfl rfl rfl ?_)
     refine TQ.val rfl rfl rfl (gives_at (v := .pointer (some ⟨b2, o2 + k * 3, none⟩)) rfl rfl rfl (fun w => at_el Try.underlying26 urcsz42 hA2 _ _ k hkl rfl w)) ?_
     refine TQ.on rfl rfl rfl ?_
     refine TQ.val rfl rfl rfl (gives_field (v := .pointer (some ⟨b2, o2 + k * 3 + 0, none⟩)) rfl rfl (fun w => urcfld42_0 _ _ w)) ?_
     refine TQ.on rfl rfl rfl ?_
     refine TQ.val rfl rfl rfl (gives_load (v := .int .i64 z.id) rfl rfl urcag3 (fun w1 hw => (hw.bel.cell hbb2).trans (fcs_cell hz hc2 0 _ rfl))) ?_
     refine TQ.on rfl rfl rfl ?_
     refine TQ.val rfl rfl rfl (gives_field (v := .pointer (some ⟨g3, 0, none⟩)) rfl rfl (fun w => urcfld42_0 _ _ w)) ?_
     refine TQ.on rfl rfl rfl ?_
     refine TQ.val rfl rfl rfl (pm_load (k := 0) (i := 0) rfl rfl urcag3 rfl rfl) ?_
     refine TQ.on rfl rfl rfl ?_
     refine TQ.val rfl rfl rfl (gives_bin rfl rfl rfl (fun w => bin_eql_t (p6) w)) ?_
     refine TQ.val rfl rfl rfl (gives_pick rfl rfl rfl) ?_
     exact TQ.end_
    refine TX.then_ (TC.condT rfl (TC.seq_ (TC.region ?_)))
    refine TL.as_ ?_
    refine TL.as_ ?_
    refine TL.end_ (TX.then_ (TC.ret_ (TX.then_ret ?_)))
    exact ret_pair Try.results31 rfl rfl (fun w1 hw => ⟨⟨((none, 0), ([], 9)), .inr ⟨⟨p1, by omega, p3⟩, .inl ⟨⟨k, ix_first hz (fun f hf => by obtain ⟨p, hp⟩ := List.getElem?_of_mem hf; rw [List.getElem?_take] at hp; split at hp; (rename_i hpk; have := hlo p f hp hpk; omega); cases hp) p6⟩, rfl⟩⟩, Nat.le_refl _, Nat.zero_le _⟩, rfl, (hw.pick [] (by decide) rfl).nilrow _ _⟩)
   ·obtain ⟨hLb, hnx⟩ := lb_stop p1.asc hk hlo (fun u hu => by rw [hz] at hu; cases hu; omega)
    refine TC.quiet_ (E' := ?_) (by kernel_rfl) (by kernel_rfl) (fun w hw => hw.drawn _) ?_ ?_
    rotate_left
    ·refine TQ.val rfl rfl rfl (gives_move rfl rfl) ?_
     refine TQ.val rfl rfl rfl (gives_move rfl rfl) ?_
     refine TQ.val rfl rfl rfl (gives_len rfl Try.underlying26 rfl) ?_
     refine TQ.val rfl rfl rfl (gives_bin rfl rfl rfl (fun w => bin_lss_t (by omega) w)) ?_
     iterate 6 (first | refine TQ.val rfl rfl rfl (gives_move rfl rfl) ?_ | refine TQ.on rfl rfl rfl ?_)
     refine TQ.val rfl rfl rfl (gives_at (v := .pointer (some ⟨b2, o2 + k * 3, none⟩)) rfl rfl rfl (fun w => at_el Try.underlying26 urcsz42 hA2 _ _ k hkl rfl w)) ?_
     refine TQ.on rfl rfl rfl ?_
     refine TQ.val rfl rfl rfl (gives_field (v := .pointer (some ⟨b2, o2 + k * 3 + 0, none⟩)) rfl rfl (fun w => urcfld42_0 _ _ w)) ?_
     refine TQ.on rfl rfl rfl ?_
     refine TQ.val rfl rfl rfl (gives_load (v := .int .i64 z.id) rfl rfl urcag3 (fun w1 hw => (hw.bel.cell hbb2).trans (fcs_cell hz hc2 0 _ rfl))) ?_
     refine TQ.on rfl rfl rfl ?_
     refine TQ.val rfl rfl rfl (gives_field (v := .pointer (some ⟨g3, 0, none⟩)) rfl rfl (fun w => urcfld42_0 _ _ w)) ?_
     refine TQ.on rfl rfl rfl ?_
     refine TQ.val rfl rfl rfl (pm_load (k := 0) (i := 0) rfl rfl urcag3 rfl rfl) ?_
     refine TQ.on rfl rfl rfl ?_
     refine TQ.val rfl rfl rfl (gives_bin rfl rfl rfl (fun w => bin_eql_f (p6) w)) ?_
     refine TQ.val rfl rfl rfl (gives_pick rfl rfl rfl) ?_
     exact TQ.end_
    refine TX.then_ (TC.condF rfl (TC.skip_ (TX.then_ (TC.seq_ (TC.seq_ (TC.region ?_))))))
    refine TL.mv ?_
    refine TL.val rfl rfl rfl (gives_len rfl Try.underlying26 rfl) ?_
    refine TL.vsplit rfl rfl rfl (gives_bin rfl rfl rfl (fun w => bin_geq w)) (fun h54 => ?_) (fun h54 => ?_)
    ·have q54 := of_decide_eq_true h54
     refine TL.end_ (TX.then_ (TC.condT rfl (TC.seq_ (TC.region ?_))))
     refine TL.as_ ?_
     refine TL.as_ ?_
     refine TL.end_ (TX.then_ (TC.ret_ (TX.then_ret ?_)))
     exact ret_pair Try.results31 rfl rfl (fun w1 hw => ⟨⟨((none, 0), ([], 5)), .inr ⟨⟨p1, by omega, p3⟩, .inr (.inl ⟨hnx, by omega, rfl⟩)⟩, Nat.le_refl _, Nat.zero_le _⟩, rfl, (hw.pick [] (by decide) rfl).nilrow _ _⟩)
    ·have q54 := of_decide_eq_false h54
     refine TL.end_ (TX.then_ (TC.condF rfl (TC.skip_ (TX.then_ (TC.seq_ ?_)))))
     refine TC.held (ls := #[Ff,Ff,Ff,Ff,Ff,Ff,Ff,Ff,Ff,Ff,Ff,Ff,Ff]) (Pm w [.blk g3 42 [.int .i64 x.id, .int .u32 x.a, .int .u32 x.b]]) (by kernel_rfl) rfl rfl (fun w hw => hw.drawn _) ?_
     refine TH.tk (listed' := #[Tt,Ff,Ff,Ff,Ff,Ff,Ff,Ff,Ff,Ff,Ff,Ff,Ff]) 0 rfl rfl rfl (gives_move rfl rfl) (fun w1 hw => hw) ?_
     refine TH.tk (listed' := #[Tt,Tt,Ff,Ff,Ff,Ff,Ff,Ff,Ff,Ff,Ff,Ff,Ff]) 1 rfl rfl rfl (gives_move rfl rfl) (fun w1 hw => hw) ?_
     refine TH.tk (listed' := #[Tt,Tt,Tt,Ff,Ff,Ff,Ff,Ff,Ff,Ff,Ff,Ff,Ff]) 2 rfl rfl rfl (gives_sliceH (v := .slice A0 k c0) rfl rfl rfl (fun w => cut_hi Try.underlying26 urcsz42 _ _ _ k rfl (by omega) w)) (fun w1 hw => hw) ?_
     refine TH.tk (listed' := #[Tt,Tt,Tt,Ff,Tt,Ff,Ff,Ff,Ff,Ff,Ff,Ff,Ff]) 4 rfl rfl rfl (pm_loadV (k := 0) (i := 0) (n := 3) (v := .agg #[.int .i64 x.id, .int .u32 x.a, .int .u32 x.b]) rfl rfl urcag42 urcsz42 rfl (by show 3 ≤ 3; decide) rfl) (fun w1 hw => hw) ?_
     refine TH.tk (listed' := #[Tt,Tt,Tt,Ff,Tt,Ff,Ff,Tt,Ff,Ff,Ff,Ff,Ff]) 7 rfl rfl rfl (gives_move rfl rfl) (fun w1 hw => hw) ?_
     refine TH.tk (listed' := #[Tt,Tt,Tt,Ff,Tt,Ff,Ff,Tt,Tt,Ff,Ff,Ff,Ff]) 8 rfl rfl rfl (gives_move rfl rfl) (fun w1 hw => hw) ?_
     refine TH.tk (listed' := #[Tt,Tt,Tt,Ff,Tt,Ff,Ff,Tt,Tt,Tt,Ff,Ff,Ff]) 9 rfl rfl rfl (gives_sliceL (v := .slice (if c0 = k then A0 else A0.map (·.add (k * 3))) (l.length - k) (c0 - k)) rfl rfl rfl (fun w => cut_lo Try.underlying26 urcsz42 _ _ _ k rfl (by omega) w)) (fun w1 hw => hw) ?_
     refine TH.two' (listed1 := #[Tt,Tt,Tt,Tt,Tt,Ff,Ff,Tt,Tt,Tt,Ff,Ff,Ff]) (listed2 := #[Tt,Tt,Tt,Ff,Tt,Tt,Ff,Tt,Tt,Tt,Ff,Ff,Ff]) 3 5 rfl rfl (by kernel_rfl) rfl rfl ?_ ?_
     ·refine TL.nilrow 42 3 ?_
      refine TL.appendT (k := 0) rfl rfl rfl rfl Try.underlying26 urcel26 rfl rfl rfl (fun w1 hw => ⟨_, rd_take ((hr.below hw.bel).more hw.bel.size) (by omega)⟩) (fcs_one _) (by show _ * 16 ≤ _; omega) (k) (by omega) (fcs (l.take k)) (rfl) (fun A58 c58 hA581 hA582 => ?_)
      refine TL.end_ ?_
      refine TX.held (fun w1 hw => hw.pick [1] (by decide) rfl) ?_
      refine TH.only' (listed' := #[Tt,Tt,Tt,Tt,Tt,Tt,Ff,Tt,Tt,Tt,Ff,Ff,Ff]) 5 rfl (by kernel_rfl) rfl ?_
      refine TL.prowS (e := 42) (size := 3) (cs := [.int .i64 x.id, .int .u32 x.a, .int .u32 x.b]) rfl rfl rfl rfl rfl (fun w => urcbs26_1_44646 _ _ _ w) (by decide) rfl (fun g60 => ?_)
      refine TL.end_ ?_
      refine TX.held (fun w1 hw => hw.pick [2] (by decide) rfl) ?_
      refine TH.only' (listed' := #[Tt,Tt,Tt,Tt,Tt,Tt,Tt,Tt,Tt,Tt,Ff,Ff,Ff]) 6 rfl (by kernel_rfl) rfl ?_
      refine TL.appendT (k := 1) rfl rfl rfl rfl Try.underlying26 urcel26 rfl rfl rfl (fun w1 hw => pm_reads hw (k := 0) rfl) (fc_one x) (by show _ * 16 ≤ _; omega) (k + 1) (rfl) (fcs (l.take k ++ [x])) (by rw [fcs_app]; rfl) (fun A61 c61 hA611 hA612 => ?_)
      refine TL.end_ ?_
      refine TX.held (fun w1 hw => hw.pick [2] (by decide) rfl) ?_
      refine TH.only' (listed' := #[Tt,Tt,Tt,Tt,Tt,Tt,Tt,Tt,Tt,Tt,Tt,Ff,Ff]) 10 rfl (by kernel_rfl) rfl ?_
      refine TL.appendT (k := 1) rfl rfl rfl rfl Try.underlying26 urcel26 rfl rfl rfl (fun w1 hw => ⟨_, rd_drop ((hr.below hw.bel).more hw.bel.size) (by omega) hnc⟩) (fcs_one _) (by show _ * 16 ≤ _; omega) (l.length + 1) (by omega) (fcs (l.take k ++ x :: l.drop k)) (by rw [← fcs_app, List.append_assoc]; rfl) (fun A65 c65 hA651 hA652 => ?_)
      refine TL.end_ ?_
      refine TX.held (fun w1 hw => hw.pick [2] (by decide) rfl) ?_
      refine TH.tk (listed' := #[Tt,Tt,Tt,Tt,Tt,Tt,Tt,Tt,Tt,Tt,Tt,Tt,Ff]) 11 rfl rfl rfl (gives_assign rfl rfl) (fun w1 hw => hw.pick [2] (by decide) rfl) ?_
      refine TH.tk (listed' := #[Tt,Tt,Tt,Tt,Tt,Tt,Tt,Tt,Tt,Tt,Tt,Tt,Tt]) 12 rfl rfl rfl (gives_assign rfl rfl) (fun w1 hw => hw.pick [2] (by decide) rfl) ?_
      refine TH.done (by kernel_rfl) ?_
      refine TX.then_ (TC.ret_ ?_)
      have hle : (l.take k ++ x :: l.drop k).length = l.length + 1 := by rw [List.length_append, List.length_cons, List.length_take, List.length_drop]; omega
      exact ret_pair Try.results31 rfl rfl (fun w1 hw => ⟨⟨((A65, c65), (l.take k ++ x :: l.drop k, 0)), AddOk.done ⟨p1, by omega, p3⟩ hnx (by omega) ⟨k, hLb, rfl⟩, by dsimp only; omega, hA652⟩, by dsimp only; rw [hle], by dsimp only; rw [hle]; exact hw.pick [1] (by decide) rfl⟩)
     ·refine TL.prowS (e := 42) (size := 3) (cs := [.int .i64 x.id, .int .u32 x.a, .int .u32 x.b]) rfl rfl rfl rfl rfl (fun w => urcbs26_1_44646 _ _ _ w) (by decide) rfl (fun g60 => ?_)
      refine TL.end_ ?_
      refine TX.held (fun w1 hw => hw.pick [1] (by decide) rfl) ?_
      refine TH.only' (listed' := #[Tt,Tt,Tt,Tt,Tt,Tt,Ff,Tt,Tt,Tt,Ff,Ff,Ff]) 3 rfl (by kernel_rfl) rfl ?_
      refine TL.nilrow 42 3 ?_
      refine TL.appendT (k := 0) rfl rfl rfl rfl Try.underlying26 urcel26 rfl rfl rfl (fun w1 hw => ⟨_, rd_take ((hr.below hw.bel).more hw.bel.size) (by omega)⟩) (fcs_one _) (by show _ * 16 ≤ _; omega) (k) (by omega) (fcs (l.take k)) (rfl) (fun A58 c58 hA581 hA582 => ?_)
      refine TL.end_ ?_
      refine TX.held (fun w1 hw => hw.pick [2] (by decide) rfl) ?_
      refine TH.only' (listed' := #[Tt,Tt,Tt,Tt,Tt,Tt,Tt,Tt,Tt,Tt,Ff,Ff,Ff]) 6 rfl (by kernel_rfl) rfl ?_
      refine TL.appendT (k := 0) rfl rfl rfl rfl Try.underlying26 urcel26 rfl rfl rfl (fun w1 hw => pm_reads hw (k := 1) rfl) (fc_one x) (by show _ * 16 ≤ _; omega) (k + 1) (rfl) (fcs (l.take k ++ [x])) (by rw [fcs_app]; rfl) (fun A61 c61 hA611 hA612 => ?_)
      refine TL.end_ ?_
      refine TX.held (fun w1 hw => hw.pick [2] (by decide) rfl) ?_
      refine TH.only' (listed' := #[Tt,Tt,Tt,Tt,Tt,Tt,Tt,Tt,Tt,Tt,Tt,Ff,Ff]) 10 rfl (by kernel_rfl) rfl ?_
      refine TL.appendT (k := 0) rfl rfl rfl rfl Try.underlying26 urcel26 rfl rfl rfl (fun w1 hw => ⟨_, rd_drop ((hr.below hw.bel).more hw.bel.size) (by omega) hnc⟩) (fcs_one _) (by show _ * 16 ≤ _; omega) (l.length + 1) (by omega) (fcs (l.take k ++ x :: l.drop k)) (by rw [← fcs_app, List.append_assoc]; rfl) (fun A65 c65 hA651 hA652 => ?_)
      refine TL.end_ ?_
      refine TX.held (fun w1 hw => hw.pick [2] (by decide) rfl) ?_
      refine TH.tk (listed' := #[Tt,Tt,Tt,Tt,Tt,Tt,Tt,Tt,Tt,Tt,Tt,Tt,Ff]) 11 rfl rfl rfl (gives_assign rfl rfl) (fun w1 hw => hw.pick [2] (by decide) rfl) ?_
      refine TH.tk (listed' := #[Tt,Tt,Tt,Tt,Tt,Tt,Tt,Tt,Tt,Tt,Tt,Tt,Tt]) 12 rfl rfl rfl (gives_assign rfl rfl) (fun w1 hw => hw.pick [2] (by decide) rfl) ?_
      refine TH.done (by kernel_rfl) ?_
      refine TX.then_ (TC.ret_ ?_)
      have hle : (l.take k ++ x :: l.drop k).length = l.length + 1 := by rw [List.length_append, List.length_cons, List.length_take, List.length_drop]; omega
      exact ret_pair Try.results31 rfl rfl (fun w1 hw => ⟨⟨((A65, c65), (l.take k ++ x :: l.drop k, 0)), AddOk.done ⟨p1, by omega, p3⟩ hnx (by omega) ⟨k, hLb, rfl⟩, by dsimp only; omega, hA652⟩, by dsimp only; rw [hle], by dsimp only; rw [hle]; exact hw.pick [0] (by decide) rfl⟩)
end Go.Proofs.Ytleckflmckbheaa
