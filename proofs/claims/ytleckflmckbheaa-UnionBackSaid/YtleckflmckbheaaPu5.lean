/-
  Texts of the proof, joined: UnSC, SymFn, UnTrail, UnFcs, UnFind, SymNil, UnRem, UnBri, UnRev, SymMapV, UnWalk, UnExp.
-/
import Derived.Test.YtleckflmckbheaaPu4
import Derived.Test.YtleckflmckbheaaPu1
import Derived.Test.YtleckflmckbheaaPu3
import Derived.Test.YtleckflmckbheaaPu2
import Derived.WalkSpells
namespace Go.Proofs.Ytleckflmckbheaa
open Go.RowKit
set_option linter.unusedVariables false
set_option linter.unusedSimpArgs false
set_option maxRecDepth 20000
/-- a slice of slices of numbers that is read -/
def Rd2 (w : World) (A : Option Addr) (ss : List (Sg Int)) : Prop := Reads w w.heap.size 1 A ss.length (ss.map Sg.val) ∧ ∀ s ∈ ss, Reads w w.heap.size 1 s.A s.l.length (uv s.l) ∧ s.l.length ≤ 100000
theorem lists_at {ss ts : List (Sg Int)} {i : Nat} {s t : Sg Int} (h : ss.map (·.l) = ts.map (·.l)) (hs : ss[i]? = some s) (ht : ts[i]? = some t) : s.l = t.l := by
  have h1 := congrArg (fun z => z[i]?) h
  simp only [List.getElem?_map, hs, ht, Option.map_some, Option.some.injEq] at h1
  exact h1
/-- slices that lie in pieces -/
theorem Rd2.of {w0 : Base} {L : List Pc} {w : World} {A : Option Addr} {c k : Nat} {e e2 : TypeId} {ss : List (Sg Int)} (h : Pm w0 L w) (hk : L[k]? = some (.row (.slice A ss.length c) e 1 ss.length (ss.map Sg.val))) (hs : ∀ s ∈ ss, Sg.pc e2 1 uv s ∈ L) (hm : ∀ s ∈ ss, s.l.length ≤ 100000) : Rd2 w A ss := by
  obtain ⟨B, h9⟩ := pm_reads h hk
  refine ⟨⟨h9.1, fun hn => by obtain ⟨ad, a1, a2, a3⟩ := h9.2 hn; exact ⟨ad, a1, by subst a1; exact (Pc.lt (h.at_ hk) ad.block rfl).2, a3⟩⟩, fun s hs2 => ⟨?_, hm s hs2⟩⟩
  obtain ⟨j, hj⟩ := List.getElem?_of_mem (hs s hs2)
  obtain ⟨B2, h8⟩ := pm_reads h hj
  exact ⟨h8.1, fun hn => by obtain ⟨ad, a1, a2, a3⟩ := h8.2 hn; exact ⟨ad, a1, (Pc.lt (h.at_ hj) ad.block (by show (Value.slice s.A s.l.length s.c).ownBlock = some ad.block; rw [a1]; rfl)).2, a3⟩⟩
theorem uscsz31 (w : World) : (sizeOf 31).run Try.prog w = .ok 1 w := rfl
theorem uscag31 (w : World) : (isAgg 31).run Try.prog w = .ok false w := rfl
theorem uscsz35 (w : World) : (sizeOf 35).run Try.prog w = .ok 1 w := rfl
theorem uscag35 (w : World) : (isAgg 35).run Try.prog w = .ok false w := rfl
set_option maxHeartbeats 1000000 in
theorem sc_any (A1 A2 : Option Addr) (n1 n2 c1 c2 : Nat) (ss ts : List (Sg Int)) (w : World) (h1 : Rd2 w A1 ss) (h2 : Rd2 w A2 ts) (hn1 : ss.length = n1) (hn2 : ts.length = n2) (hm1 : ss.length ≤ 100000) (hm2 : ts.length ≤ 100000) : Calls Try.prog 13 #[.slice A1 n1 c1, .slice A2 n2 c2] w fun e w' => e = .returned (.bool (decide (ss.map (·.l) = ts.map (·.l)))) ∧ Below w.heap.size w w' := by
  subst hn1 hn2
  refine begin_ (vs := [.slice A1 ss.length c1, .slice A2 ts.length c2]) Try.func13 rfl rfl rfl ?_ (Pm.start w)
  refine TC.seq_ ?_
  refine TC.region ?_
  refine TL.val rfl rfl rfl (gives_assign rfl rfl) ?_
  refine TL.end_ ?_
  refine TX.then_ ?_
  refine TC.seq_ ?_
  refine TC.seq_ ?_
  refine TC.region ?_
  refine TL.val rfl rfl rfl (gives_move rfl rfl) ?_
  refine TL.val rfl rfl rfl (gives_len rfl Try.underlying28 rfl) ?_
  refine TL.val rfl rfl rfl (gives_move rfl rfl) ?_
  refine TL.val rfl rfl rfl (gives_len rfl Try.underlying28 rfl) ?_
  refine TL.vsplit rfl rfl rfl (gives_bin rfl rfl rfl (fun w => bin_neq w)) (fun h11 => ?_) (fun h11 => ?_)
  · have q11 := of_decide_eq_true h11
    refine TL.end_ ?_
    refine TX.then_ ?_
    refine TC.condT rfl ?_
    refine TC.seq_ ?_
    refine TC.region ?_
    refine TL.val rfl rfl rfl (gives_assign rfl rfl) ?_
    refine TL.end_ ?_
    refine TX.then_ ?_
    refine TC.ret_ ?_
    refine TX.then_ret ?_
    exact ret_tmp Try.results13 rfl (fun w1 hw => ⟨by rw [decide_eq_false (fun hh => q11 (by have h1 := congrArg List.length hh; rw [List.length_map, List.length_map] at h1; rw [h1]))], hw.bel⟩)
  · have q11 := of_decide_eq_false h11
    have hlen : ss.length = ts.length := by omega
    refine TL.end_ ?_
    refine TX.then_ ?_
    refine TC.condF rfl ?_
    refine TC.skip_ ?_
    refine TX.then_ ?_
    refine TC.seq_ ?_
    refine TC.seq_ ?_
    refine TC.region ?_
    refine TL.val rfl rfl rfl (gives_assign rfl rfl) ?_
    refine TL.end_ ?_
    refine TX.then_ ?_
    refine TC.block ?_
    refine TC.loop_ (α := {i : Nat // i ≤ ss.length ∧ (ss.map (·.l)).take i = (ts.map (·.l)).take i}) (fun y => [(0, .slice A1 ss.length c1), (1, .slice A2 ts.length c2), (5, .int .i64 ((y.1 : Nat) : Int))]) (fun y => Pm w []) (fun y => ss.length - y.1) (⟨0, Nat.zero_le _, rfl⟩) ⟨rfl, rfl, rfl, trivial⟩ (fun w1 hw => hw) ?_
    rintro ⟨i, hi, hI⟩
    try dsimp only
    refine TC.seq_ ?_
    refine TC.seq_ ?_
    refine TC.region ?_
    refine TL.val rfl rfl rfl (gives_move rfl rfl) ?_
    refine TL.val rfl rfl rfl (gives_move rfl rfl) ?_
    refine TL.val rfl rfl rfl (gives_len rfl Try.underlying28 rfl) ?_
    refine TL.vsplit rfl rfl rfl (gives_bin rfl rfl rfl (fun w => bin_lss w)) (fun h15 => ?_) (fun h15 => ?_)
    · have q15 := of_decide_eq_true h15
      obtain ⟨s, hs⟩ : ∃ s, ss[i]? = some s := ⟨_, List.getElem?_eq_getElem (by omega)⟩
      obtain ⟨t, ht⟩ : ∃ t, ts[i]? = some t := ⟨_, List.getElem?_eq_getElem (by omega)⟩
      obtain ⟨b1, o1, hA1, hb1, hc1⟩ := h1.1.ad (by omega) (by decide)
      obtain ⟨b2, o2, hA2, hb2, hc2⟩ := h2.1.ad (by omega) (by decide)
      have hsl := h1.2 s (List.mem_of_getElem? hs)
      have htl := h2.2 t (List.mem_of_getElem? ht)
      refine TL.end_ ?_
      refine TX.then_ ?_
      refine TC.condT rfl ?_
      refine TC.skip_ ?_
      refine TX.then_ ?_
      refine TC.seq_ ?_
      refine TC.block ?_
      refine TC.seq_ ?_
      refine TC.seq_ ?_
      rcases Classical.em (s.l.length = t.l.length) with p1 | p1
      · refine TC.quiet_ (E' := ?_) (by kernel_rfl) (by kernel_rfl) (fun w hw => hw.drawn _) ?_ ?_
        rotate_left
        · refine TQ.val rfl rfl rfl (gives_move rfl rfl) ?_
          refine TQ.val rfl rfl rfl (gives_move rfl rfl) ?_
          refine TQ.val rfl rfl rfl (gives_at (v := .pointer (some ⟨b1, o1 + i * 1, none⟩)) rfl rfl rfl (fun w => at_el Try.underlying28 uscsz31 hA1 _ _ i (by omega) rfl w)) ?_
          refine TQ.val rfl rfl rfl (gives_load (v := .slice s.A s.l.length s.c) rfl rfl uscag31 (fun w1 hw => (hw.bel.cell hb1).trans (by rw [Nat.mul_one]; exact hc1 _ _ (by rw [List.getElem?_map, hs]; rfl)))) ?_
          refine TQ.val rfl rfl rfl (gives_len rfl Try.underlying31 rfl) ?_
          refine TQ.val rfl rfl rfl (gives_move rfl rfl) ?_
          refine TQ.val rfl rfl rfl (gives_move rfl rfl) ?_
          refine TQ.val rfl rfl rfl (gives_at (v := .pointer (some ⟨b2, o2 + i * 1, none⟩)) rfl rfl rfl (fun w => at_el Try.underlying28 uscsz31 hA2 _ _ i (by omega) rfl w)) ?_
          refine TQ.val rfl rfl rfl (gives_load (v := .slice t.A t.l.length t.c) rfl rfl uscag31 (fun w1 hw => (hw.bel.cell hb2).trans (by rw [Nat.mul_one]; exact hc2 _ _ (by rw [List.getElem?_map, ht]; rfl)))) ?_
          refine TQ.val rfl rfl rfl (gives_len rfl Try.underlying31 rfl) ?_
          refine TQ.val rfl rfl rfl (gives_bin rfl rfl rfl (fun w => bin_neq_f (by rw [p1]) w)) ?_
          exact TQ.end_
        refine TX.then_ ?_
        refine TC.condF rfl ?_
        refine TC.skip_ ?_
        refine TX.then_ ?_
        refine TC.seq_ ?_
        refine TC.region ?_
        refine TL.val rfl rfl rfl (gives_assign rfl rfl) ?_
        refine TL.end_ ?_
        refine TX.then_ ?_
        refine TC.block ?_
        refine TC.loop_ (α := {k : Nat // k ≤ s.l.length ∧ s.l.take k = t.l.take k}) (fun y => [(0, .slice A1 ss.length c1), (1, .slice A2 ts.length c2), (5, .int .i64 ((i : Nat) : Int)), (6, .int .i64 ((y.1 : Nat) : Int))]) (fun y => Pm w []) (fun y => s.l.length - y.1) (⟨0, Nat.zero_le _, rfl⟩) ⟨rfl, rfl, rfl, rfl, trivial⟩ (fun w1 hw => hw) ?_
        rintro ⟨k, hk, hJ⟩
        try dsimp only
        refine TC.seq_ ?_
        refine TC.seq_ ?_
        refine TC.region ?_
        refine TL.val rfl rfl rfl (gives_move rfl rfl) ?_
        refine TL.val rfl rfl rfl (gives_move rfl rfl) ?_
        refine TL.val rfl rfl rfl (gives_move rfl rfl) ?_
        refine TL.val rfl rfl rfl (gives_at (v := .pointer (some ⟨b1, o1 + i * 1, none⟩)) rfl rfl rfl (fun w => at_el Try.underlying28 uscsz31 hA1 _ _ i (by omega) rfl w)) ?_
        refine TL.val rfl rfl rfl (gives_load (v := .slice s.A s.l.length s.c) rfl rfl uscag31 (fun w1 hw => (hw.bel.cell hb1).trans (by rw [Nat.mul_one]; exact hc1 _ _ (by rw [List.getElem?_map, hs]; rfl)))) ?_
        refine TL.val rfl rfl rfl (gives_len rfl Try.underlying31 rfl) ?_
        refine TL.vsplit rfl rfl rfl (gives_bin rfl rfl rfl (fun w => bin_lss w)) (fun h35 => ?_) (fun h35 => ?_)
        · have q35 := of_decide_eq_true h35
          obtain ⟨x, hx⟩ : ∃ x, s.l[k]? = some x := ⟨_, List.getElem?_eq_getElem (by omega)⟩
          obtain ⟨y, hy⟩ : ∃ y, t.l[k]? = some y := ⟨_, List.getElem?_eq_getElem (by omega)⟩
          obtain ⟨b3, o3, hA3, hb3, hc3⟩ := hsl.1.ad (by omega) (by decide)
          obtain ⟨b4, o4, hA4, hb4, hc4⟩ := htl.1.ad (by omega) (by decide)
          refine TL.end_ ?_
          refine TX.then_ ?_
          refine TC.condT rfl ?_
          refine TC.skip_ ?_
          refine TX.then_ ?_
          refine TC.seq_ ?_
          refine TC.block ?_
          refine TC.seq_ ?_
          rcases Classical.em (x = y) with p3 | p3
          · have hJ2 : s.l.take (k + 1) = t.l.take (k + 1) := by rw [List.take_add_one, List.take_add_one, hJ, hx, hy, p3]
            refine TC.quiet_ (E' := ?_) (by kernel_rfl) (by kernel_rfl) (fun w hw => hw.drawn _) ?_ ?_
            rotate_left
            · refine TQ.val rfl rfl rfl (gives_move rfl rfl) ?_
              refine TQ.val rfl rfl rfl (gives_move rfl rfl) ?_
              refine TQ.val rfl rfl rfl (gives_at (v := .pointer (some ⟨b1, o1 + i * 1, none⟩)) rfl rfl rfl (fun w => at_el Try.underlying28 uscsz31 hA1 _ _ i (by omega) rfl w)) ?_
              refine TQ.val rfl rfl rfl (gives_load (v := .slice s.A s.l.length s.c) rfl rfl uscag31 (fun w1 hw => (hw.bel.cell hb1).trans (by rw [Nat.mul_one]; exact hc1 _ _ (by rw [List.getElem?_map, hs]; rfl)))) ?_
              refine TQ.val rfl rfl rfl (gives_move rfl rfl) ?_
              refine TQ.val rfl rfl rfl (gives_at (v := .pointer (some ⟨b3, o3 + k * 1, none⟩)) rfl rfl rfl (fun w => at_el Try.underlying31 uscsz35 hA3 _ _ k (by omega) rfl w)) ?_
              refine TQ.val rfl rfl rfl (gives_load (v := .int .u32 x) rfl rfl uscag35 (fun w1 hw => (hw.bel.cell hb3).trans (by rw [Nat.mul_one]; exact hc3 _ _ (by unfold uv; rw [List.getElem?_map, hx]; rfl)))) ?_
              refine TQ.val rfl rfl rfl (gives_move rfl rfl) ?_
              refine TQ.val rfl rfl rfl (gives_move rfl rfl) ?_
              refine TQ.val rfl rfl rfl (gives_at (v := .pointer (some ⟨b2, o2 + i * 1, none⟩)) rfl rfl rfl (fun w => at_el Try.underlying28 uscsz31 hA2 _ _ i (by omega) rfl w)) ?_
              refine TQ.val rfl rfl rfl (gives_load (v := .slice t.A t.l.length t.c) rfl rfl uscag31 (fun w1 hw => (hw.bel.cell hb2).trans (by rw [Nat.mul_one]; exact hc2 _ _ (by rw [List.getElem?_map, ht]; rfl)))) ?_
              refine TQ.val rfl rfl rfl (gives_move rfl rfl) ?_
              refine TQ.val rfl rfl rfl (gives_at (v := .pointer (some ⟨b4, o4 + k * 1, none⟩)) rfl rfl rfl (fun w => at_el Try.underlying31 uscsz35 hA4 _ _ k (by omega) rfl w)) ?_
              refine TQ.val rfl rfl rfl (gives_load (v := .int .u32 y) rfl rfl uscag35 (fun w1 hw => (hw.bel.cell hb4).trans (by rw [Nat.mul_one]; exact hc4 _ _ (by unfold uv; rw [List.getElem?_map, hy]; rfl)))) ?_
              refine TQ.val rfl rfl rfl (gives_bin rfl rfl rfl (fun w => bin_neq_f (p3) w)) ?_
              exact TQ.end_
            refine TX.then_ ?_
            refine TC.condF rfl ?_
            refine TC.skip_ ?_
            refine TX.in_normal ?_
            refine TX.then_ ?_
            refine TC.region ?_
            refine TL.val rfl rfl rfl (gives_move rfl rfl) ?_
            refine TL.val rfl rfl rfl (gives_bin rfl rfl rfl (fun w => bin_add_ (r := ((k + 1 : Nat) : Int)) (by simp only [IntKind.wrap_i64]; omega) w)) ?_
            refine TL.val rfl rfl rfl (gives_assign rfl rfl) ?_
            refine TL.end_ ?_
            exact TX.round (⟨k + 1, by omega, hJ2⟩) (by show s.l.length - (k + 1) < s.l.length - k; omega) ⟨rfl, rfl, rfl, rfl, trivial⟩ (fun w1 hw => hw)
          · refine TC.quiet_ (E' := ?_) (by kernel_rfl) (by kernel_rfl) (fun w hw => hw.drawn _) ?_ ?_
            rotate_left
            · refine TQ.val rfl rfl rfl (gives_move rfl rfl) ?_
              refine TQ.val rfl rfl rfl (gives_move rfl rfl) ?_
              refine TQ.val rfl rfl rfl (gives_at (v := .pointer (some ⟨b1, o1 + i * 1, none⟩)) rfl rfl rfl (fun w => at_el Try.underlying28 uscsz31 hA1 _ _ i (by omega) rfl w)) ?_
              refine TQ.val rfl rfl rfl (gives_load (v := .slice s.A s.l.length s.c) rfl rfl uscag31 (fun w1 hw => (hw.bel.cell hb1).trans (by rw [Nat.mul_one]; exact hc1 _ _ (by rw [List.getElem?_map, hs]; rfl)))) ?_
              refine TQ.val rfl rfl rfl (gives_move rfl rfl) ?_
              refine TQ.val rfl rfl rfl (gives_at (v := .pointer (some ⟨b3, o3 + k * 1, none⟩)) rfl rfl rfl (fun w => at_el Try.underlying31 uscsz35 hA3 _ _ k (by omega) rfl w)) ?_
              refine TQ.val rfl rfl rfl (gives_load (v := .int .u32 x) rfl rfl uscag35 (fun w1 hw => (hw.bel.cell hb3).trans (by rw [Nat.mul_one]; exact hc3 _ _ (by unfold uv; rw [List.getElem?_map, hx]; rfl)))) ?_
              refine TQ.val rfl rfl rfl (gives_move rfl rfl) ?_
              refine TQ.val rfl rfl rfl (gives_move rfl rfl) ?_
              refine TQ.val rfl rfl rfl (gives_at (v := .pointer (some ⟨b2, o2 + i * 1, none⟩)) rfl rfl rfl (fun w => at_el Try.underlying28 uscsz31 hA2 _ _ i (by omega) rfl w)) ?_
              refine TQ.val rfl rfl rfl (gives_load (v := .slice t.A t.l.length t.c) rfl rfl uscag31 (fun w1 hw => (hw.bel.cell hb2).trans (by rw [Nat.mul_one]; exact hc2 _ _ (by rw [List.getElem?_map, ht]; rfl)))) ?_
              refine TQ.val rfl rfl rfl (gives_move rfl rfl) ?_
              refine TQ.val rfl rfl rfl (gives_at (v := .pointer (some ⟨b4, o4 + k * 1, none⟩)) rfl rfl rfl (fun w => at_el Try.underlying31 uscsz35 hA4 _ _ k (by omega) rfl w)) ?_
              refine TQ.val rfl rfl rfl (gives_load (v := .int .u32 y) rfl rfl uscag35 (fun w1 hw => (hw.bel.cell hb4).trans (by rw [Nat.mul_one]; exact hc4 _ _ (by unfold uv; rw [List.getElem?_map, hy]; rfl)))) ?_
              refine TQ.val rfl rfl rfl (gives_bin rfl rfl rfl (fun w => bin_neq_t (p3) w)) ?_
              exact TQ.end_
            refine TX.then_ ?_
            refine TC.condT rfl ?_
            refine TC.seq_ ?_
            refine TC.region ?_
            refine TL.val rfl rfl rfl (gives_assign rfl rfl) ?_
            refine TL.end_ ?_
            refine TX.then_ ?_
            refine TC.ret_ ?_
            refine TX.in_ret ?_
            refine TX.then_ret ?_
            refine TX.then_ret ?_
            refine TX.in_ret ?_
            refine TX.in_ret ?_
            refine TX.then_ret ?_
            refine TX.then_ret ?_
            refine TX.in_ret ?_
            refine TX.then_ret ?_
            exact ret_tmp Try.results13 rfl (fun w1 hw => ⟨by rw [decide_eq_false (fun hh => p3 (by have h1 := lists_at hh hs ht; rw [h1] at hx; exact Option.some.inj (hx.symm.trans hy)))], hw.bel⟩)
        · have q35 := of_decide_eq_false h35
          have hst : s.l = t.l := by rw [List.take_of_length_le (by omega), List.take_of_length_le (by omega)] at hJ; exact hJ
          have hI2 : (ss.map (·.l)).take (i + 1) = (ts.map (·.l)).take (i + 1) := by rw [List.take_add_one, List.take_add_one, hI, List.getElem?_map, List.getElem?_map, hs, ht]; simp [hst]
          refine TL.end_ ?_
          refine TX.then_ ?_
          refine TC.condF rfl ?_
          refine TC.exit_ ?_
          refine TX.then_exit ?_
          refine TX.then_exit ?_
          refine TX.in_same ?_
          refine TX.in_normal ?_
          refine TX.then_ ?_
          refine TC.region ?_
          refine TL.val rfl rfl rfl (gives_move rfl rfl) ?_
          refine TL.val rfl rfl rfl (gives_bin rfl rfl rfl (fun w => bin_add_ (r := ((i + 1 : Nat) : Int)) (by simp only [IntKind.wrap_i64]; omega) w)) ?_
          refine TL.val rfl rfl rfl (gives_assign rfl rfl) ?_
          refine TL.end_ ?_
          exact TX.round (⟨i + 1, by omega, hI2⟩) (by show ss.length - (i + 1) < ss.length - i; omega) ⟨rfl, rfl, rfl, trivial⟩ (fun w1 hw => hw)
      · refine TC.quiet_ (E' := ?_) (by kernel_rfl) (by kernel_rfl) (fun w hw => hw.drawn _) ?_ ?_
        rotate_left
        · refine TQ.val rfl rfl rfl (gives_move rfl rfl) ?_
          refine TQ.val rfl rfl rfl (gives_move rfl rfl) ?_
          refine TQ.val rfl rfl rfl (gives_at (v := .pointer (some ⟨b1, o1 + i * 1, none⟩)) rfl rfl rfl (fun w => at_el Try.underlying28 uscsz31 hA1 _ _ i (by omega) rfl w)) ?_
          refine TQ.val rfl rfl rfl (gives_load (v := .slice s.A s.l.length s.c) rfl rfl uscag31 (fun w1 hw => (hw.bel.cell hb1).trans (by rw [Nat.mul_one]; exact hc1 _ _ (by rw [List.getElem?_map, hs]; rfl)))) ?_
          refine TQ.val rfl rfl rfl (gives_len rfl Try.underlying31 rfl) ?_
          refine TQ.val rfl rfl rfl (gives_move rfl rfl) ?_
          refine TQ.val rfl rfl rfl (gives_move rfl rfl) ?_
          refine TQ.val rfl rfl rfl (gives_at (v := .pointer (some ⟨b2, o2 + i * 1, none⟩)) rfl rfl rfl (fun w => at_el Try.underlying28 uscsz31 hA2 _ _ i (by omega) rfl w)) ?_
          refine TQ.val rfl rfl rfl (gives_load (v := .slice t.A t.l.length t.c) rfl rfl uscag31 (fun w1 hw => (hw.bel.cell hb2).trans (by rw [Nat.mul_one]; exact hc2 _ _ (by rw [List.getElem?_map, ht]; rfl)))) ?_
          refine TQ.val rfl rfl rfl (gives_len rfl Try.underlying31 rfl) ?_
          refine TQ.val rfl rfl rfl (gives_bin rfl rfl rfl (fun w => bin_neq_t (by omega) w)) ?_
          exact TQ.end_
        refine TX.then_ ?_
        refine TC.condT rfl ?_
        refine TC.seq_ ?_
        refine TC.region ?_
        refine TL.val rfl rfl rfl (gives_assign rfl rfl) ?_
        refine TL.end_ ?_
        refine TX.then_ ?_
        refine TC.ret_ ?_
        refine TX.then_ret ?_
        refine TX.in_ret ?_
        refine TX.then_ret ?_
        refine TX.then_ret ?_
        refine TX.in_ret ?_
        refine TX.then_ret ?_
        exact ret_tmp Try.results13 rfl (fun w1 hw => ⟨by rw [decide_eq_false (fun hh => p1 (by rw [lists_at hh hs ht]))], hw.bel⟩)
    · have q15 := of_decide_eq_false h15
      refine TL.end_ ?_
      refine TX.then_ ?_
      refine TC.condF rfl ?_
      refine TC.exit_ ?_
      refine TX.then_exit ?_
      refine TX.then_exit ?_
      refine TX.in_same ?_
      refine TX.then_ ?_
      refine TC.seq_ ?_
      refine TC.region ?_
      refine TL.val rfl rfl rfl (gives_assign rfl rfl) ?_
      refine TL.end_ ?_
      refine TX.then_ ?_
      refine TC.ret_ ?_
      have hE : ss.map (·.l) = ts.map (·.l) := by rw [List.take_of_length_le (by rw [List.length_map]; omega), List.take_of_length_le (by rw [List.length_map]; omega)] at hI; exact hI
      exact ret_tmp Try.results13 rfl (fun w1 hw => ⟨by rw [decide_eq_true hE], hw.bel⟩)
end Go.Proofs.Ytleckflmckbheaa

namespace Go.Proofs.Ytleckflmckbheaa
open Go.RowKit
set_option linter.unusedVariables false
set_option linter.unusedSimpArgs false
section
variable {P : Program} {N : Fr} {Q : Exit → Act → World → Prop} {E : Env} {I : World → Prop} {ops : Array Oper} {l : List Oper} {o : Oper}
/-- the operation enters a function -/
def Ent (P : Program) (N : Fr) (E : Env) (o : Oper) (f : FuncId) (us : Array Value) : Prop := ∀ a w, EnvOk N E a → (execOp a.eval o).run P w = .ok (.enter f us) w
theorem ent_val {x : Operand} {xs : List Operand} {ts : Array TypeId} {vs : List Value} {f : FuncId} {fn : Func} {first cap us : Array Value} (ho : o.op = .call { callee := .value x, args := xs.toArray, argTypes := ts }) (hv : ev E x = some (.func (.func f) first cap)) (hx : evs E xs = some vs)
    (hf : P.funcs[f]? = some fn) (hn : (fn.name == "runtime.NumGoroutine") = false) (hb : fn.body.isNone = false) (hu : first ++ vs.toArray ++ cap = us) : Ent P N E o f us := fun a w ha => by
  unfold execOp; rw [ho]
  have harr : xs.toArray.map a.eval = vs.toArray := by rw [List.map_toArray, ha.evals hx]
  subst hu
  simp only [resolve, harr, ha.eval hv, Deferred.ofValue]
  have hn' : ¬ fn.name = "runtime.NumGoroutine" := by simpa using hn
  have hb' : ¬ fn.body = none := by intro e; rw [e] at hb; simp at hb
  simp [invoke, callFunc, hf, hn', hb', go_sem]
theorem TL.callE {α : Type} {d : Nat} {f : FuncId} {us : Array Value} {r : α → Value} {I' : α → World → Prop} (hg : o.guard = none) (hd : o.dst = some d) (hN : Nat.blt d N.n = true) (he : Ent P N E o f us)
    (hc : ∀ w, I w → Calls P f us w fun e w' => ∃ x, e = .returned (r x) ∧ I' x w') (h : ∀ x, TL P N ops Q l ((d, r x) :: E) (I' x)) : TL P N ops Q (o :: l) E I := fun a w ha hw =>
  wpList_plain hg fun K hK => by
    unfold Oper.wp
    rw [he a w ha, Oper.upon_enter]
    refine (hc w hw).mono ?_
    rintro e w' ⟨x, rfl, hI⟩
    show K (a.put o.dst (r x)) w'
    rw [hd]
    exact hK _ _ (h x _ _ (ha.put d _ (by simpa [Nat.blt_eq] using hN)) hI)
/-- a function value is called that changes nothing that was there -/
theorem TL.callE1 {w0 : Base} {L : List Pc} {d : Nat} {f : FuncId} {us : Array Value} {r : Value} (hg : o.guard = none) (hd : o.dst = some d) (hN : Nat.blt d N.n = true) (he : Ent P N E o f us)
    (hc : ∀ w, Pm w0 L w → Calls P f us w fun e w' => e = .returned r ∧ Below w.heap.size w w') (h : TL P N ops Q l ((d, r) :: E) (Pm w0 L)) : TL P N ops Q (o :: l) E (Pm w0 L) :=
  TL.callE (α := Unit) (r := fun _ => r) (I' := fun _ => Pm w0 L) hg hd hN he (fun w hw => (hc w hw).mono fun e w' ⟨he, hb⟩ => ⟨(), he, hw.below hb⟩) (fun _ => h)
/-- one that makes pieces of its own -/
theorem TL.callEPm {w0 : Base} {α : Type} {L : List Pc} {d : Nat} {f : FuncId} {us : Array Value} (r : α → Value) (Ln : α → List Pc) (hg : o.guard = none) (hd : o.dst = some d) (hN : Nat.blt d N.n = true) (he : Ent P N E o f us)
    (hc : ∀ w, Pm w0 L w → Calls P f us w fun en w' => ∃ x, en = .returned (r x) ∧ Pm w (Ln x) w')
    (h : ∀ x, TL P N ops Q l ((d, r x) :: E) (Pm w0 (Ln x ++ L))) (hna : ∀ x, noAbs (Ln x) = true := by intro x; rfl) : TL P N ops Q (o :: l) E (Pm w0 L) :=
  TL.callE (α := α) (r := r) (I' := fun x => Pm w0 (Ln x ++ L)) hg hd hN he (fun w hw => (hc w hw).mono fun en w' ⟨x, he, h2⟩ => ⟨x, he, hw.addAll h2 (hna x)⟩) h
theorem gives_makeFunc {f : Fn} {xs ys : List Operand} {us vs : List Value} (ho : o.op = .makeFunc f xs.toArray ys.toArray) (hx : evs E xs = some us) (hy : evs E ys = some vs) : Gives P N o E I (.func f us.toArray vs.toArray) := fun a w ha _ => by
  unfold execOp; rw [ho]
  have h1 : xs.toArray.map a.eval = us.toArray := by rw [List.map_toArray, ha.evals hx]
  have h2 : ys.toArray.map a.eval = vs.toArray := by rw [List.map_toArray, ha.evals hy]
  simp [h1, h2, Instr.makeFunc, go_sem]
end
section
variable {P : Program} {N : Fr} {Q : Exit → Act → World → Prop} {E : Env} {w0 : Base} {L : List Pc} {ops : Array Oper} {l : List Oper} {o : Oper}
/-- append of a row's end to its beginning, in place -/
theorem TL.shift {d k g n c cc i j size bytes : Nat} {t e : TypeId} {s x : Operand} {A : Option Addr} {xs : List Value} (hg : o.guard = none) (hd : o.dst = some d) (hN : Nat.blt d N.n = true)
    (ho : o.op = .call { callee := .builtin .append, args := #[s, x], argTypes := #[t, t] }) (hE : Elem P t e size bytes) (hs : ev E s = some (.slice (some ⟨g, 0, none⟩) i c)) (hx : ev E x = some (.slice A (n - j) cc))
    (hk : L[k]? = some (.row (.slice (some ⟨g, 0, none⟩) n c) e size n xs)) (hA : j < n → A = some ⟨g, j * size, none⟩) (hA0 : A ≠ none) (hij : i ≤ j) (hj : j ≤ n) (hnc : n ≤ c) (h1 : ∀ u ∈ xs, u.oneCell' = true) {xs' : List Value}
    (hL : xs.take (i * size) ++ xs.drop (j * size) ++ xs.drop (i * size + (xs.drop (j * size)).length) = xs') {M : Nat} (hM : M = i + (n - j))
    (h : TL P N ops Q l ((d, .slice (some ⟨g, 0, none⟩) M c) :: E) (Pm w0 (L.set k (.row (.slice (some ⟨g, 0, none⟩) n c) e size n xs')))) : TL P N ops Q (o :: l) E (Pm w0 L) := by
  subst hL hM
  refine TL.run (α := Unit) (r := fun _ => .slice (some ⟨g, 0, none⟩) (i + (n - j)) c) (I' := fun _ => Pm w0 (L.set k (.row (.slice (some ⟨g, 0, none⟩) n c) e size n (xs.take (i * size) ++ xs.drop (j * size) ++ xs.drop (i * size + (xs.drop (j * size)).length))))) hg hd hN (fun a w ha hw => ?_) (fun _ => h)
  obtain ⟨ti, z, hi, hz, hsz, hby, hzs⟩ := hE.info
  have hrow := hw.at_ hk
  have hlen : xs.length = n * size := hrow.1
  have hdl : (xs.drop (j * size)).length = (n - j) * size := by rw [List.length_drop, hlen, Nat.sub_mul]
  have hfit : i * size + (xs.drop (j * size)).length ≤ xs.length := by
    rw [hdl, hlen, ← Nat.add_mul]
    exact Nat.mul_le_mul_right _ (by omega)
  obtain ⟨cur, hcur, hfc, hown⟩ := row_put hrow hfit
  obtain ⟨ad, rfl⟩ : ∃ ad, A = some ad := by
    cases A with
    | none => exact absurd rfl hA0
    | some ad => exact ⟨ad, rfl⟩
  refine ⟨(), w.setRow g (cur.toList.take (i * size) ++ xs.drop (j * size) ++ cur.toList.drop (i * size + (xs.drop (j * size)).length)).toArray, ?_, hw.turn hk (grown_setRow _ _) hown (fun g' hg' => .inl hg') (fun k o e => by cases e)⟩
  unfold execOp; rw [ho]
  have hrun := run_append_room (P := P) w t o.type e ti hE.und hi g i c cur hcur ad (n - j) cc (xs.drop (j * size)) (by rw [hdl, hsz]) (fun q u hu => by
    have hjn : j < n := by
      rcases Nat.lt_or_ge j n with hh | hh
      · exact hh
      · have : (xs.drop (j * size)).length = 0 := by rw [hdl, Nat.sub_eq_zero_of_le hh, Nat.zero_mul]
        rw [List.eq_nil_of_length_eq_zero this] at hu
        cases hu
    have := hA hjn
    cases this
    rw [List.getElem?_drop] at hu
    have h3 := pm_row hw hk hu
    rw [← h3]
    congr 1
    unfold Addr.add; split <;> simp_all) (fun u hu => h1 u (List.mem_of_mem_drop hu)) (by omega) (by rw [hsz]; exact hfc)
  rw [hsz] at hrun
  simp only [resolve, invoke, builtin, Sem.run_bind, Sem.run_pure, Result.andThen_ok, List.map_toArray, List.map_cons, List.map_nil, ha.eval hs, ha.eval hx, hrun]
theorem gives_slice3 {t : TypeId} {size : Nat} {x lo hi mx : Operand} {A : Option Addr} {n c i j m : Nat} {I : World → Prop} (ho : o.op = .slice t x (some lo) (some hi) (some mx)) (hx : ev E x = some (.slice A n c)) (hl : ev E lo = some (.int .i64 ((i : Nat) : Int))) (hh : ev E hi = some (.int .i64 ((j : Nat) : Int))) (hm : ev E mx = some (.int .i64 ((m : Nat) : Int)))
    (ht : P.underlying t = some (.slice (P.elem t))) (hs : ∀ w : World, (sizeOf (P.elem t)).run P w = .ok size w) (h1 : i ≤ j) (h2 : j ≤ m) (h3 : m ≤ c) : Gives P N o E I (.slice (if m = i then A else A.map (·.add (i * size))) (j - i) (m - i)) := fun a w ha _ => by
  unfold execOp; rw [ho]
  simp only [Option.map_some, ha.eval hx, ha.eval hl, ha.eval hh, ha.eval hm, run_sliceAt_slice w t _ _ _ _ ht, run_slice_lhm w t A n c ht .i64 .i64 .i64 ((i : Nat) : Int) ((j : Nat) : Int) ((m : Nat) : Int) (by omega) (by omega) (by omega) (by omega), hs, Result.andThen_ok, Sem.run_bind, Sem.run_pure, sliced, Int.toNat_natCast]
end
end Go.Proofs.Ytleckflmckbheaa

namespace Go.Proofs.Ytleckflmckbheaa
set_option linter.unusedVariables false
set_option linter.unusedSimpArgs false
/-- the other number of a fact -/
def oth (f : Fc) (x : Int) : Int := if f.a = x then f.b else f.a
/-- a way from x to y that does not turn back, and does not begin with the fact last -/
def Trl (F : List Fc) : Int → Int → List Fc → Int → Prop
  | x, _, [], y => x = y
  | x, last, f :: p, y => f ∈ F ∧ f.id ≠ last ∧ (f.a = x ∨ f.b = x) ∧ Trl F (oth f x) f.id p y
/-- a forest: each fact is a bridge; facts have different numbers, and different ends -/
structure Frs (F : List Fc) : Prop where
  ids : ∀ f ∈ F, ∀ g ∈ F, f.id = g.id → f = g
  ne : ∀ f ∈ F, f.a ≠ f.b
  pos : ∀ f ∈ F, 0 ≤ f.id
  bridge : ∀ f ∈ F, ¬ Conn (F.filter fun g => decide (g ≠ f)) f.a f.b
theorem oth_ends {f : Fc} {x : Int} (h : f.a = x ∨ f.b = x) : (x = f.a ∧ oth f x = f.b) ∨ (x = f.b ∧ oth f x = f.a) := by
  unfold oth
  by_cases e : f.a = x
  · rw [if_pos e]; exact .inl ⟨e.symm, rfl⟩
  · rw [if_neg e]; exact .inr ⟨(h.resolve_left e).symm, rfl⟩
theorem oth_oth {f : Fc} {x : Int} (hne : f.a ≠ f.b) (h : f.a = x ∨ f.b = x) : oth f (oth f x) = x ∧ (f.a = oth f x ∨ f.b = oth f x) := by
  rcases oth_ends h with ⟨e1, e2⟩ | ⟨e1, e2⟩
  · rw [e2]
    unfold oth
    rw [if_neg hne]
    exact ⟨e1.symm, .inr rfl⟩
  · rw [e2]
    unfold oth
    rw [if_pos rfl]
    exact ⟨e1.symm, .inl rfl⟩
theorem Trl.any {F : List Fc} {x l y : Int} {p : List Fc} (h : Trl F x l p y) (hF : ∀ f ∈ F, 0 ≤ f.id) : Trl F x (-1) p y := by
  cases p with
  | nil => exact h
  | cons f p =>
    obtain ⟨h1, h2, h3, h4⟩ := h
    exact ⟨h1, by have := hF f h1; omega, h3, h4⟩
theorem Trl.mem {F : List Fc} : ∀ {p : List Fc} {x l y : Int}, Trl F x l p y → ∀ f ∈ p, f ∈ F
  | [], _, _, _, _, f, hf => absurd hf List.not_mem_nil
  | g :: p, x, l, y, ⟨h1, _, _, h4⟩, f, hf => by
    rcases List.mem_cons.1 hf with rfl | hf
    · exact h1
    · exact Trl.mem h4 f hf
/-- a way joins its ends by its facts -/
theorem Trl.conn {F G : List Fc} : ∀ {p : List Fc} {x l y : Int}, Trl F x l p y → (∀ f ∈ p, f ∈ G) → Conn G x y
  | [], x, l, y, h, _ => by cases h; exact .refl _
  | f :: p, x, l, y, ⟨h1, _, h3, h4⟩, hG => by
    have hf := hG f List.mem_cons_self
    have c1 : Conn G x (oth f x) := by
      rcases oth_ends h3 with ⟨e1, e2⟩ | ⟨e1, e2⟩
      · rw [e2, e1]; exact .fact hf
      · rw [e2, e1]; exact .symm (.fact hf)
    exact c1.trans (Trl.conn h4 fun g hg => hG g (List.mem_cons_of_mem _ hg))
/-- a way is parted at the first place of a fact -/
theorem Trl.part {F : List Fc} (f : Fc) : ∀ {p : List Fc} {x l y : Int}, Trl F x l p y → f ∈ p → ∃ q r z l', p = q ++ f :: r ∧ f ∉ q ∧ Trl F x l q z ∧ Trl F z l' (f :: r) y ∧ (q = [] → l' = l)
  | [], _, _, _, _, hf => absurd hf List.not_mem_nil
  | g :: p, x, l, y, h, hf => by
    by_cases e : g = f
    · subst e
      exact ⟨[], p, x, l, rfl, List.not_mem_nil, rfl, h, fun _ => rfl⟩
    · obtain ⟨h1, h2, h3, h4⟩ := h
      obtain ⟨q, r, z, l', e1, e2, e3, e4, e5⟩ := Trl.part f h4 ((List.mem_cons.1 hf).resolve_left fun hh => e hh.symm)
      refine ⟨g :: q, r, z, l', by rw [e1]; rfl, ?_, ⟨h1, h2, h3, e3⟩, e4, fun hq => by cases hq⟩
      intro hm
      rcases List.mem_cons.1 hm with e6 | e6
      · exact e e6.symm
      · exact e2 e6
section
variable {F : List Fc} (hF : Frs F)
include hF
/-- what goes from one end of a fact to the other needs the fact -/
theorem Frs.need {f : Fc} (hf : f ∈ F) {x l y : Int} {p : List Fc} (h : Trl F x l p y) (hx : f.a = x ∨ f.b = x) (hy : y = oth f x) : f ∈ p := by
  refine Decidable.byContradiction fun hn => hF.bridge f hf ?_
  have c := h.conn (G := F.filter fun g => decide (g ≠ f)) fun g hg => List.mem_filter.2 ⟨h.mem g hg, decide_eq_true fun e => hn (e ▸ hg)⟩
  rcases oth_ends hx with ⟨e1, e2⟩ | ⟨e1, e2⟩
  · rw [hy, e2, e1] at c; exact c
  · rw [hy, e2, e1] at c; exact c.symm
/-- no way leads back to where it began -/
theorem Frs.round : ∀ (n : Nat) (p : List Fc) (x l : Int), p.length ≤ n → Trl F x l p x → p = []
  | _, [], _, _, _, _ => rfl
  | 0, g :: p, x, l, hn, _ => absurd hn (by simp)
  | n + 1, g :: p, x, l, hn, ⟨h1, h2, h3, h4⟩ => by
    exfalso
    obtain ⟨h5, h6⟩ := oth_oth (hF.ne g h1) h3
    have hm := hF.need h1 h4 h6 h5.symm
    obtain ⟨q, r, z, l', e1, e2, e3, e4, e5⟩ := Trl.part g h4 hm
    obtain ⟨_, f2, f3, _⟩ := e4
    have hz : z = x ∨ z = oth g x := by
      rcases oth_ends h3 with ⟨a1, a2⟩ | ⟨a1, a2⟩
      · rcases f3 with f3 | f3
        · exact .inl (f3.symm.trans a1.symm)
        · exact .inr (f3.symm.trans a2.symm)
      · rcases f3 with f3 | f3
        · exact .inr (f3.symm.trans a2.symm)
        · exact .inl (f3.symm.trans a1.symm)
    rcases hz with rfl | rfl
    · exact e2 (hF.need h1 e3 h6 h5.symm)
    · have hq : q.length ≤ n := by
        have : (g :: p).length = q.length + r.length + 2 := by rw [e1]; simp; omega
        omega
      have := Frs.round n q _ _ hq e3
      exact f2 (e5 this).symm
/-- no fact is used twice -/
theorem Frs.nodup : ∀ (p : List Fc) (x l y : Int), Trl F x l p y → p.Nodup
  | [], _, _, _, _ => List.nodup_nil
  | g :: p, x, l, y, ⟨h1, h2, h3, h4⟩ => by
    refine List.nodup_cons.2 ⟨fun hm => ?_, Frs.nodup p _ _ _ h4⟩
    obtain ⟨h5, h6⟩ := oth_oth (hF.ne g h1) h3
    obtain ⟨q, r, z, l', e1, e2, e3, e4, e5⟩ := Trl.part g h4 hm
    obtain ⟨_, f2, f3, _⟩ := e4
    have hz : z = x ∨ z = oth g x := by
      rcases oth_ends h3 with ⟨a1, a2⟩ | ⟨a1, a2⟩
      · rcases f3 with f3 | f3
        · exact .inl (f3.symm.trans a1.symm)
        · exact .inr (f3.symm.trans a2.symm)
      · rcases f3 with f3 | f3
        · exact .inr (f3.symm.trans a2.symm)
        · exact .inl (f3.symm.trans a1.symm)
    rcases hz with rfl | rfl
    · exact e2 (hF.need h1 e3 h6 h5.symm)
    · exact f2 (e5 (hF.round _ q _ _ (Nat.le_refl _) e3)).symm
/-- there is at most one way -/
theorem Frs.only : ∀ (p q : List Fc) (x l m y : Int), Trl F x l p y → Trl F x m q y → p = q
  | [], q, x, l, m, y, hp, hq => by cases hp; exact (hF.round _ q _ _ (Nat.le_refl _) hq).symm
  | f :: p, [], x, l, m, y, hp, hq => by cases hq; exact hF.round _ _ _ _ (Nat.le_refl _) hp
  | f :: p, g :: q, x, l, m, y, hp, hq => by
    by_cases e : f = g
    · subst e
      obtain ⟨_, _, _, h4⟩ := hp
      obtain ⟨_, _, _, k4⟩ := hq
      rw [Frs.only p q _ _ _ _ h4 k4]
    · exfalso
      have hnd := hF.nodup _ _ _ _ hp
      obtain ⟨h1, h2, h3, h4⟩ := hp
      have hfp : f ∉ p := (List.nodup_cons.1 hnd).1
      have c1 : Conn (F.filter fun g => decide (g ≠ f)) (oth f x) y := h4.conn fun k hk => List.mem_filter.2 ⟨h4.mem k hk, decide_eq_true fun e2 => hfp (e2 ▸ hk)⟩
      have key : ∀ z, Conn (F.filter fun g => decide (g ≠ f)) x z → z = y → False := fun z c e2 => by
        subst e2
        refine hF.bridge f h1 ?_
        rcases oth_ends h3 with ⟨e3, e4⟩ | ⟨e3, e4⟩
        · rw [e4] at c1; rw [e3] at c; exact c.trans c1.symm
        · rw [e4] at c1; rw [e3] at c; exact c1.trans c.symm
      by_cases hm : f ∈ g :: q
      · obtain ⟨q1, r, z, l', e1, e2, e3, e4, e5⟩ := Trl.part f hq hm
        obtain ⟨_, f2, f3, _⟩ := e4
        have hz : z = x ∨ z = oth f x := by
          rcases oth_ends h3 with ⟨a1, a2⟩ | ⟨a1, a2⟩
          · rcases f3 with f3 | f3
            · exact .inl (f3.symm.trans a1.symm)
            · exact .inr (f3.symm.trans a2.symm)
          · rcases f3 with f3 | f3
            · exact .inr (f3.symm.trans a2.symm)
            · exact .inl (f3.symm.trans a1.symm)
        rcases hz with rfl | rfl
        · have := hF.round _ q1 _ _ (Nat.le_refl _) e3
          subst this
          cases e1
          exact e rfl
        · exact e2 (hF.need h1 e3 h3 rfl)
      · exact key y (Trl.conn hq fun k hk => List.mem_filter.2 ⟨Trl.mem hq k hk, decide_eq_true fun e2 => hm (e2 ▸ hk)⟩) rfl
/-- a way one fact longer at its beginning -/
theorem Frs.front {f : Fc} (hf : f ∈ F) {x y : Int} (hx : f.a = x ∨ f.b = x) {p : List Fc} (h : Trl F (oth f x) (-1) p y) : ∃ q, Trl F x (-1) q y := by
  obtain ⟨h5, h6⟩ := oth_oth (hF.ne f hf) hx
  cases p with
  | nil => exact ⟨[f], hf, by have := hF.pos f hf; omega, hx, h⟩
  | cons g p =>
    by_cases e : g = f
    · subst e
      obtain ⟨_, _, _, h4⟩ := h
      rw [h5] at h4
      exact ⟨p, h4.any hF.pos⟩
    · obtain ⟨h1, h2, h3, h4⟩ := h
      exact ⟨f :: g :: p, hf, by have := hF.pos f hf; omega, hx, h1, fun e2 => e (hF.ids g h1 f hf e2), h3, h4⟩
/-- what is together has a way -/
theorem Frs.way {x y : Int} (h : Conn F x y) : ∃ p, Trl F x (-1) p y := by
  have key : ∀ z, (∃ p, Trl F x (-1) p z) ↔ ∃ p, Trl F y (-1) p z := by
    induction h with
    | refl => exact fun z => Iff.rfl
    | fact hf =>
      rename_i f
      have e1 : oth f f.a = f.b := by unfold oth; rw [if_pos rfl]
      have e2 : oth f f.b = f.a := by unfold oth; rw [if_neg (hF.ne f hf)]
      exact fun z => ⟨fun ⟨p, hp⟩ => hF.front hf (.inr rfl) (by rw [e2]; exact hp), fun ⟨p, hp⟩ => hF.front hf (.inl rfl) (by rw [e1]; exact hp)⟩
    | symm _ ih => exact fun z => (ih z).symm
    | trans _ _ ih1 ih2 => exact fun z => (ih1 z).trans (ih2 z)
  exact (key y).2 ⟨[], rfl⟩
end
theorem nodup_len {α : Type} [DecidableEq α] : ∀ {p F : List α}, p.Nodup → (∀ f ∈ p, f ∈ F) → p.length ≤ F.length
  | [], _, _, _ => Nat.zero_le _
  | a :: p, F, h, hs => by
    obtain ⟨h1, h2⟩ := List.nodup_cons.1 h
    have := nodup_len (F := F.erase a) h2 fun f hf => (List.mem_erase_of_ne (fun e => h1 (by rw [← e]; exact hf))).2 (hs f (List.mem_cons_of_mem _ hf))
    rw [List.length_erase_of_mem (hs a List.mem_cons_self)] at this
    have h3 : 0 < F.length := List.length_pos_of_mem (hs a List.mem_cons_self)
    rw [List.length_cons]
    omega
end Go.Proofs.Ytleckflmckbheaa

namespace Go.Proofs.Ytleckflmckbheaa
open Go.RowKit
set_option linter.unusedVariables false
set_option linter.unusedSimpArgs false
/-- how two numbers compare -/
def cmp3 (x y : Int) : Int := if x < y then -1 else if y < x then 1 else 0
theorem cmp3_neg {x y : Int} : cmp3 x y < 0 ↔ x < y := by unfold cmp3; split <;> (try split) <;> omega
theorem cmp3_zero {x y : Int} : cmp3 x y = 0 ↔ x = y := by unfold cmp3; split <;> (try split) <;> omega
/-- the facts ascend -/
def Asc (l : List Fc) : Prop := ∀ (p q : Nat) (x y : Fc), p < q → l[p]? = some x → l[q]? = some y → x.id < y.id
theorem validF.asc {l : List Fc} (h : validF l) : Asc l := by
  intro p q x y hpq hx hy
  obtain ⟨k, rfl⟩ : ∃ k, q = p + 1 + k := ⟨q - (p + 1), by omega⟩
  induction k generalizing y with
  | zero =>
    have hlt : p + 1 < l.length := (List.getElem?_eq_some_iff.1 hy).1
    exact (h.2 (p + 1) hlt y hy).2.2 x (by omega) hx
  | succ k ih =>
    have hlt : p + 1 + (k + 1) < l.length := (List.getElem?_eq_some_iff.1 hy).1
    obtain ⟨z, hz⟩ : ∃ z, l[p + 1 + k]? = some z := ⟨_, List.getElem?_eq_getElem (by omega)⟩
    have h1 := ih z (by omega) hz
    have h2 := (h.2 _ hlt y hy).2.2 z (by omega) (by rw [show p + 1 + (k + 1) - 1 = p + 1 + k by omega]; exact hz)
    omega
/-- place i is where the number id stands, or would stand -/
def Lb (l : List Fc) (id : Int) (i : Nat) : Prop := i ≤ l.length ∧ ∀ (p : Nat) (x : Fc), l[p]? = some x → (p < i ↔ x.id < id)
def FindOk (l : List Fc) (id : Int) (y : Nat × Bool) : Prop := Lb l id y.1 ∧ (y.2 = true ↔ ∃ x, l[y.1]? = some x ∧ x.id = id)
/-- the index of the fact with a number -/
def ixF (l : List Fc) (id : Int) : Option Nat := l.findIdx? fun f => decide (f.id = id)
theorem FindOk.some {l : List Fc} {id : Int} {i : Nat} (h : FindOk l id (i, true)) (ha : Asc l) : ixF l id = some i ∧ ∃ x, l[i]? = some x ∧ x.id = id := by
  obtain ⟨x, hx, e⟩ := h.2.1 rfl
  refine ⟨?_, x, hx, e⟩
  obtain ⟨hlt, e2⟩ := List.getElem?_eq_some_iff.1 hx
  unfold ixF
  rw [List.findIdx?_eq_some_iff_getElem]
  refine ⟨hlt, by rw [e2]; exact decide_eq_true e, fun j hj hjd => ?_⟩
  have h3 := of_decide_eq_true hjd
  have := ha j i _ x hj (List.getElem?_eq_getElem (by omega)) hx
  omega
theorem FindOk.none {l : List Fc} {id : Int} {i : Nat} (h : FindOk l id (i, false)) (ha : Asc l) : ixF l id = Option.none := by
  unfold ixF
  rw [List.findIdx?_eq_none_iff]
  intro x hx
  refine decide_eq_false fun e => ?_
  obtain ⟨p, hp⟩ := List.getElem?_of_mem hx
  have h1 := h.1.2 p x hp
  dsimp only at h1
  have hpi : i ≤ p := Nat.le_of_not_lt fun hh => by have := h1.1 hh; omega
  have hlt : p < l.length := (List.getElem?_eq_some_iff.1 hp).1
  obtain ⟨y, hy⟩ : ∃ y, l[i]? = Option.some y := ⟨_, List.getElem?_eq_getElem (by omega)⟩
  have h2 := h.1.2 i y hy
  dsimp only at h2
  have h3 : ¬ y.id < id := fun hh => by have := h2.2 hh; omega
  have e2 : y.id ≠ id := fun e2 => by have := h.2.2 ⟨y, hy, e2⟩; simp at this
  rcases Nat.lt_or_ge i p with hh | hh
  · have := ha i p y x hh hy hp
    omega
  · obtain rfl : i = p := by omega
    rw [hp] at hy
    cases hy
    exact e2 e
/-- a list without the fact with a number, or what hinders it -/
noncomputable def remP (l : List Fc) (id : Int) : List Fc × Int := if validF l then (match ixF l id with | some i => (l.eraseIdx i, 0) | Option.none => ([], 8)) else ([], 1)
theorem fcs_take (l : List Fc) (i : Nat) : (fcs l).take (i * 3) = fcs (l.take i) := by
  induction l generalizing i with
  | nil => simp [fcs]
  | cons f l ih =>
    cases i with
    | zero => rw [Nat.zero_mul]; rfl
    | succ i =>
      show (f.cells ++ fcs l).take ((i + 1) * 3) = f.cells ++ fcs (l.take i)
      rw [List.take_append, List.take_of_length_le (by rw [fc_cells_len]; omega), fc_cells_len, show (i + 1) * 3 - 3 = i * 3 by omega, ih]
theorem fcs_drop (l : List Fc) (i : Nat) : (fcs l).drop (i * 3) = fcs (l.drop i) := by
  induction l generalizing i with
  | nil => simp [fcs]
  | cons f l ih =>
    cases i with
    | zero => rw [Nat.zero_mul]; rfl
    | succ i =>
      show (f.cells ++ fcs l).drop ((i + 1) * 3) = fcs (l.drop i)
      rw [List.drop_append, List.drop_of_length_le (by rw [fc_cells_len]; omega), fc_cells_len, show (i + 1) * 3 - 3 = i * 3 by omega, ih, List.nil_append]
/-- where facts lead from a number: chk goes along -/
def chkF : List Fc → Int → Option Int
  | [], x => some x
  | f :: l, x => if f.a = f.b ∨ (f.a ≠ x ∧ f.b ≠ x) then Option.none else chkF l (oth f x)
theorem xor_back {a b : Int} (ha : 0 ≤ a ∧ a ≤ 4294967295) (hb : 0 ≤ b ∧ b ≤ 4294967295) : bits .xor .u32 a (bits .xor .u32 a b) = b ∧ bits .xor .u32 b (bits .xor .u32 a b) = a := by
  obtain ⟨m, rfl⟩ := Int.eq_ofNat_of_zero_le ha.1
  obtain ⟨n, rfl⟩ := Int.eq_ofNat_of_zero_le hb.1
  have e1 : ∀ k : Nat, k ≤ 4294967295 → (BitVec.ofInt 32 (k : Int)).toNat = k := fun k hk => by rw [BitVec.toNat_ofInt]; omega
  have key : ∀ p q : Nat, p ≤ 4294967295 → q ≤ 4294967295 → bits .xor .u32 (p : Int) (q : Int) = ((p ^^^ q : Nat) : Int) ∧ p ^^^ q ≤ 4294967295 := fun p q hp hq => by
    have hx : p ^^^ q < 2 ^ 32 := Nat.xor_lt_two_pow (by omega) (by omega)
    refine ⟨?_, by omega⟩
    show IntKind.u32.wrap ((BitVec.ofInt 32 (p : Int) ^^^ BitVec.ofInt 32 (q : Int)).toNat : Int) = _
    rw [BitVec.toNat_xor, e1 p hp, e1 q hq, IntKind.wrap_u32]
    omega
  have hm : m ≤ 4294967295 := by omega
  have hn : n ≤ 4294967295 := by omega
  obtain ⟨k1, k2⟩ := key m n hm hn
  refine ⟨?_, ?_⟩
  · rw [k1, (key m _ hm k2).1, ← Nat.xor_assoc, Nat.xor_self, Nat.zero_xor]
  · rw [k1, (key n _ hn k2).1, Nat.xor_comm m n, ← Nat.xor_assoc, Nat.xor_self, Nat.zero_xor]
theorem oth_range {f : Fc} (h : f.Ok) (x : Int) : 0 ≤ oth f x ∧ oth f x ≤ 4294967295 := by
  unfold oth
  split
  · exact ⟨h.2.2.1, h.2.2.2⟩
  · exact ⟨h.1, h.2.1⟩
/-- block g holds a row -/
def RwG (e : TypeId) (size : Nat) (w : World) (g n c : Nat) (xs : List Value) : Prop := w.ownsRow g e size (.slice (some ⟨g, 0, none⟩) n c) n xs
theorem RwG.obj {e : TypeId} {size : Nat} {w : World} {g n c : Nat} {xs : List Value} (h : RwG e size w g n c xs) : (∃ o, w.heap[g]? = some o) ∧ n ≤ c ∧ c ≤ maxLen := by
  rcases h.2 with ⟨e1, _⟩ | ⟨g', cap, cur, a, hb, hg, hn, hm, r⟩
  · cases e1
  · cases a
    exact ⟨⟨_, hg⟩, hn, hm⟩
theorem Pm.rowStartG {e : TypeId} {size : Nat} {w : World} {g n c : Nat} {xs : List Value} (h : RwG e size w g n c xs) : Pm ⟨wbut w g, g⟩ (.row (.slice (some ⟨g, 0, none⟩) n c) e size n xs :: oths g w) w := by
  obtain ⟨⟨o, ho⟩, _⟩ := h.obj
  have hp := Pm.mapStart ho
  refine ⟨hp.bel, fun q hq => ?_, ?_, hp.oth, hp.low⟩
  · rcases List.mem_cons.1 hq with rfl | hq
    · exact h
    · exact hp.own q (List.mem_cons_of_mem _ hq)
  · have := List.pairwise_cons.1 hp.apart
    exact List.Pairwise.cons (fun q hq x hx => this.1 q hq x hx) this.2
theorem pm_rowAtG {w0 : Base} {L : List Pc} {w : World} {k g n c : Nat} {e : TypeId} {size : Nat} {xs : List Value} (h : Pm w0 L w) (hk : L[k]? = some (.row (.slice (some ⟨g, 0, none⟩) n c) e size n xs)) : RwG e size w g n c xs := by
  have h1 := h.at_ hk
  refine ⟨h1.1, ?_⟩
  rcases h1.2 with ⟨e1, _⟩ | ⟨g', cap, cur, a, hb, r⟩
  · cases e1
  · cases a
    exact .inr ⟨g, _, cur, rfl, Nat.le_refl _, r⟩
/-- the beginning of a row -/
theorem RwG.head {e : TypeId} {size : Nat} {w : World} {g n c m : Nat} {xs : List Value} (h : RwG e size w g n c xs) (hm : m ≤ n) : RwG e size w g m c (xs.take (m * size)) := by
  obtain ⟨h1, h2⟩ := h
  refine ⟨?_, ?_⟩
  · rw [List.length_take, h1]
    exact Nat.min_eq_left (Nat.mul_le_mul_right _ hm)
  · rcases h2 with ⟨e1, h2⟩ | ⟨g', cap, cur, a1, hb, hgg, hn, hmx, hs1, ht1⟩
    · cases e1
    · cases a1
      refine .inr ⟨g, c, cur, rfl, hb, hgg, by omega, hmx, hs1, ?_⟩
      rw [← ht1, List.take_take, Nat.min_eq_left (Nat.mul_le_mul_right _ hm)]
section
variable {P : Program} {N : Fr} {Q : Exit → Act → World → Prop} {E : Env} {w0 : Base} {L : List Pc} {ops : Array Oper} {l : List Oper} {o : Oper}
/-- a call that turns row number k into another one -/
theorem TL.pcallRwG {α : Type} {d k g n c : Nat} {e : TypeId} {size : Nat} {xs : List Value} {f : FuncId} {fn : Func} {es : List Operand} {ts : Array TypeId} {vs : List Value} (r : α → Value) (m : α → Nat) (ys : α → List Value) (hg : o.guard = none) (hd : o.dst = some d) (hN : Nat.blt d N.n = true)
    (ho : o.op = .call { callee := .value (.func f), args := es.toArray, argTypes := ts }) (hx : evs E es = some vs) (hf : P.funcs[f]? = some fn) (hn : (fn.name == "runtime.NumGoroutine") = false) (hb : fn.body.isNone = false)
    (hk : L[k]? = some (.row (.slice (some ⟨g, 0, none⟩) n c) e size n xs)) (hc : ∀ w, Pm w0 L w → RwG e size w g n c xs → Calls P f vs.toArray w fun en w' => ∃ x, en = .returned (r x) ∧ RwG e size w' g (m x) c (ys x) ∧ w.grownBy w' (some g))
    (h : ∀ x, TL P N ops Q l ((d, r x) :: E) (Pm w0 (L.set k (.row (.slice (some ⟨g, 0, none⟩) (m x) c) e size (m x) (ys x))))) : TL P N ops Q (o :: l) E (Pm w0 L) :=
  TL.call (α := α) (r := r) (I' := fun x => Pm w0 (L.set k (.row (.slice (some ⟨g, 0, none⟩) (m x) c) e size (m x) (ys x)))) hg hd hN ho hx hf hn hb (fun w hw => (hc w hw (pm_rowAtG hw hk)).mono fun en w' ⟨x, he, hr, hgr⟩ => ⟨x, he, by
    have h1 := hw.at_ hk
    have hbg : w0.b ≤ g := (Pc.lt h1 g rfl).1
    exact hw.turn hk hgr (own_base hr hbg) (fun g' hg' => .inl hg') (fun _ _ e => by cases e)⟩) h
end
end Go.Proofs.Ytleckflmckbheaa

namespace Go.Proofs.Ytleckflmckbheaa
open Go.RowKit
set_option linter.unusedVariables false
set_option linter.unusedSimpArgs false
set_option maxRecDepth 20000
theorem ufinm60 : (Try.f60.name == "runtime.NumGoroutine") = false := by decide
theorem ufibd60 : Try.f60.body.isNone = false := rfl
theorem ufifld42_0 (g o : Nat) (w : World) : (Instr.fieldAt 42 (.pointer (some ⟨g, o, none⟩)) 0).run Try.prog w = .ok (.pointer (some ⟨g, o + 0, none⟩)) w := by kernel_rfl
theorem ufiag3 (w : World) : (isAgg 3).run Try.prog w = .ok false w := rfl
theorem ufinm54 : (Try.f54.name == "runtime.NumGoroutine") = false := by decide
theorem ufibd54 : Try.f54.body.isNone = false := rfl
theorem ufisz42 (w : World) : (sizeOf 42).run Try.prog w = .ok 3 w := rfl
theorem ufiag42 (w : World) : (isAgg 42).run Try.prog w = .ok true w := rfl
theorem ufinm53 : (Try.f53.name == "runtime.NumGoroutine") = false := by decide
theorem ufibd53 : Try.f53.body.isNone = false := rfl
theorem ufinm52 : (Try.f52.name == "runtime.NumGoroutine") = false := by decide
theorem ufibd52 : Try.f52.body.isNone = false := rfl
set_option maxHeartbeats 1000000 in
theorem isnani_any (x : Int) (w : World) : Calls Try.prog 60 #[.int .i64 x] w fun e w' => e = .returned (.bool false) ∧ Below w.heap.size w w' := by
  refine begin_ (vs := [.int .i64 x]) Try.func60 rfl rfl rfl ?_ (Pm.start w)
  refine TC.seq_ ?_
  refine TC.region ?_
  refine TL.val rfl rfl rfl (gives_assign rfl rfl) ?_
  refine TL.end_ ?_
  refine TX.then_ ?_
  refine TC.seq_ ?_
  refine TC.region ?_
  refine TL.val rfl rfl rfl (gives_move rfl rfl) ?_
  refine TL.val rfl rfl rfl (gives_move rfl rfl) ?_
  refine TL.val rfl rfl rfl (gives_bin rfl rfl rfl (fun w => bin_neq_f (rfl) w)) ?_
  refine TL.val rfl rfl rfl (gives_assign rfl rfl) ?_
  refine TL.end_ ?_
  refine TX.then_ ?_
  refine TC.ret_ ?_
  exact ret_tmp Try.results60 rfl (fun w1 hw => ⟨rfl, hw.bel⟩)
set_option maxHeartbeats 1000000 in
theorem cmpi_any (x y : Int) (w : World) : Calls Try.prog 54 #[.int .i64 x, .int .i64 y] w fun e w' => e = .returned (.int .i64 (cmp3 x y)) ∧ Below w.heap.size w w' := by
  refine begin_ (vs := [.int .i64 x, .int .i64 y]) Try.func54 rfl rfl rfl ?_ (Pm.start w)
  refine TC.seq_ ?_
  refine TC.region ?_
  refine TL.val rfl rfl rfl (gives_assign rfl rfl) ?_
  refine TL.end_ ?_
  refine TX.then_ ?_
  refine TC.seq_ ?_
  refine TC.region ?_
  refine TL.val rfl rfl rfl (gives_move rfl rfl) ?_
  refine TL.pcall1 (r := .bool false) rfl rfl rfl rfl rfl Try.func60 ufinm60 ufibd60 (fun w1 hw => isnani_any _ w1) ?_
  refine TL.val rfl rfl rfl (gives_assign rfl rfl) ?_
  refine TL.end_ ?_
  refine TX.then_ ?_
  refine TC.seq_ ?_
  refine TC.region ?_
  refine TL.val rfl rfl rfl (gives_move rfl rfl) ?_
  refine TL.pcall1 (r := .bool false) rfl rfl rfl rfl rfl Try.func60 ufinm60 ufibd60 (fun w1 hw => isnani_any _ w1) ?_
  refine TL.val rfl rfl rfl (gives_assign rfl rfl) ?_
  refine TL.end_ ?_
  refine TX.then_ ?_
  refine TC.seq_ ?_
  refine TC.seq_ ?_
  refine TC.region ?_
  refine TL.val rfl rfl rfl (gives_move rfl rfl) ?_
  refine TL.end_ ?_
  refine TX.then_ ?_
  refine TC.condF rfl ?_
  refine TC.skip_ ?_
  refine TX.then_ ?_
  refine TC.seq_ ?_
  refine TC.seq_ ?_
  refine TC.region ?_
  refine TL.val rfl rfl rfl (gives_move rfl rfl) ?_
  refine TL.end_ ?_
  refine TX.then_ ?_
  refine TC.condF rfl ?_
  refine TC.skip_ ?_
  refine TX.then_ ?_
  refine TC.seq_ ?_
  refine TC.seq_ ?_
  refine TC.region ?_
  refine TL.val rfl rfl rfl (gives_move rfl rfl) ?_
  refine TL.val rfl rfl rfl (gives_move rfl rfl) ?_
  refine TL.vsplit rfl rfl rfl (gives_bin rfl rfl rfl (fun w => bin_lss w)) (fun h16 => ?_) (fun h16 => ?_)
  · have q16 := of_decide_eq_true h16
    refine TL.end_ ?_
    refine TX.then_ ?_
    refine TC.condT rfl ?_
    refine TC.seq_ ?_
    refine TC.region ?_
    refine TL.val rfl rfl rfl (gives_assign rfl rfl) ?_
    refine TL.end_ ?_
    refine TX.then_ ?_
    refine TC.ret_ ?_
    refine TX.then_ret ?_
    exact ret_tmp Try.results54 rfl (fun w1 hw => ⟨by unfold cmp3; rw [if_pos q16], hw.bel⟩)
  · have q16 := of_decide_eq_false h16
    refine TL.end_ ?_
    refine TX.then_ ?_
    refine TC.condF rfl ?_
    refine TC.skip_ ?_
    refine TX.then_ ?_
    refine TC.seq_ ?_
    refine TC.seq_ ?_
    refine TC.region ?_
    refine TL.val rfl rfl rfl (gives_move rfl rfl) ?_
    refine TL.val rfl rfl rfl (gives_move rfl rfl) ?_
    refine TL.vsplit rfl rfl rfl (gives_bin rfl rfl rfl (fun w => bin_gtr w)) (fun h19 => ?_) (fun h19 => ?_)
    · have q19 := of_decide_eq_true h19
      refine TL.end_ ?_
      refine TX.then_ ?_
      refine TC.condT rfl ?_
      refine TC.seq_ ?_
      refine TC.region ?_
      refine TL.val rfl rfl rfl (gives_assign rfl rfl) ?_
      refine TL.end_ ?_
      refine TX.then_ ?_
      refine TC.ret_ ?_
      refine TX.then_ret ?_
      exact ret_tmp Try.results54 rfl (fun w1 hw => ⟨by unfold cmp3; rw [if_neg q16, if_pos q19], hw.bel⟩)
    · have q19 := of_decide_eq_false h19
      refine TL.end_ ?_
      refine TX.then_ ?_
      refine TC.condF rfl ?_
      refine TC.skip_ ?_
      refine TX.then_ ?_
      refine TC.seq_ ?_
      refine TC.region ?_
      refine TL.val rfl rfl rfl (gives_assign rfl rfl) ?_
      refine TL.end_ ?_
      refine TX.then_ ?_
      refine TC.ret_ ?_
      exact ret_tmp Try.results54 rfl (fun w1 hw => ⟨by unfold cmp3; rw [if_neg q16, if_neg q19], hw.bel⟩)
set_option maxHeartbeats 1000000 in
theorem findf_any (x : Fc) (id : Int) (w : World) : Calls Try.prog 53 #[.agg x.cells.toArray, .int .i64 id] w fun e w' => e = .returned (.int .i64 (cmp3 x.id id)) ∧ Below w.heap.size w w' := by
  refine begin_ (vs := [.agg x.cells.toArray, .int .i64 id]) Try.func53 rfl rfl rfl ?_ (Pm.start w)
  refine TC.seq_ ?_
  refine TC.region ?_
  refine TL.pnew rfl rfl rfl (exec_box (cs := x.cells) rfl rfl rfl) (fun g2 => ?_)
  refine TL.val rfl rfl rfl (gives_assign rfl rfl) ?_
  refine TL.end_ ?_
  refine TX.then_ ?_
  refine TC.seq_ ?_
  refine TC.region ?_
  refine TL.val rfl rfl rfl (gives_field (v := .pointer (some ⟨g2, 0, none⟩)) rfl rfl (fun w => ufifld42_0 _ _ w)) ?_
  refine TL.val rfl rfl rfl (pm_load (k := 0) (i := 0) rfl rfl ufiag3 rfl rfl) ?_
  refine TL.val rfl rfl rfl (gives_move rfl rfl) ?_
  refine TL.pcall1 (r := .int .i64 (cmp3 x.id id)) rfl rfl rfl rfl rfl Try.func54 ufinm54 ufibd54 (fun w1 hw => cmpi_any _ _ w1) ?_
  refine TL.val rfl rfl rfl (gives_assign rfl rfl) ?_
  refine TL.end_ ?_
  refine TX.then_ ?_
  refine TC.ret_ ?_
  exact ret_tmp Try.results53 rfl (fun w1 hw => ⟨rfl, hw.bel⟩)
set_option maxHeartbeats 1000000 in
theorem bsf_any (A0 : Option Addr) (n0 c0 : Nat) (l : List Fc) (w : World) (hr : Reads w w.heap.size 3 A0 n0 (fcs l)) (hl : l.length = n0) (hl1 : l.length ≤ 100000) (ha : Asc l) (id : Int) :
    Calls Try.prog 52 #[.slice A0 n0 c0, .int .i64 id, .func (.func 53) #[] #[]] w fun e w' => ∃ x : {y : Nat × Bool // FindOk l id y}, e = .returned (.tuple #[.int .i64 ((x.1.1 : Nat) : Int), .bool x.1.2]) ∧ Below w.heap.size w w' := by
  subst hl
  refine begin_ (vs := [.slice A0 l.length c0, .int .i64 id, .func (.func 53) #[] #[]]) Try.func52 rfl rfl rfl ?_ (Pm.start w)
  refine TC.seq_ ?_
  refine TC.region ?_
  refine TL.val rfl rfl rfl (gives_assign rfl rfl) ?_
  refine TL.val rfl rfl rfl (gives_assign rfl rfl) ?_
  refine TL.end_ ?_
  refine TX.then_ ?_
  refine TC.seq_ ?_
  refine TC.region ?_
  refine TL.val rfl rfl rfl (gives_move rfl rfl) ?_
  refine TL.val rfl rfl rfl (gives_len rfl Try.underlying26 rfl) ?_
  refine TL.val rfl rfl rfl (gives_assign rfl rfl) ?_
  refine TL.end_ ?_
  refine TX.then_ ?_
  refine TC.seq_ ?_
  refine TC.region ?_
  refine TL.val rfl rfl rfl (gives_move rfl rfl) ?_
  refine TL.val rfl rfl rfl (gives_assign rfl rfl) ?_
  refine TL.val rfl rfl rfl (gives_assign rfl rfl) ?_
  refine TL.end_ ?_
  refine TX.then_ ?_
  refine TC.seq_ ?_
  refine TC.block ?_
  refine TC.loop_ (α := {y : Nat × Nat // y.1 ≤ y.2 ∧ y.2 ≤ l.length ∧ (∀ p x, l[p]? = some x → p < y.1 → x.id < id) ∧ ∀ p x, l[p]? = some x → y.2 ≤ p → ¬ x.id < id}) (fun y => [(0, .slice A0 l.length c0), (1, .int .i64 id), (2, .func (.func 53) #[] #[]), (8, .int .i64 ((l.length : Nat) : Int)), (9, .int .i64 ((y.1.1 : Nat) : Int)), (10, .int .i64 ((y.1.2 : Nat) : Int))]) (fun y => Pm w []) (fun y => y.1.2 - y.1.1) (⟨(0, l.length), Nat.zero_le _, Nat.le_refl _, fun p x _ h => absurd h (Nat.not_lt_zero _), fun p x h1 h2 => absurd (List.getElem?_eq_some_iff.1 h1).1 (Nat.not_lt_of_le h2)⟩) ⟨rfl, rfl, rfl, rfl, rfl, rfl, trivial⟩ (fun w1 hw => hw) ?_
  rintro ⟨⟨i, j⟩, hij, hj2, h1, h2⟩
  dsimp only at hij hj2 h1 h2 ⊢
  refine TC.seq_ ?_
  refine TC.seq_ ?_
  refine TC.region ?_
  refine TL.val rfl rfl rfl (gives_move rfl rfl) ?_
  refine TL.val rfl rfl rfl (gives_move rfl rfl) ?_
  refine TL.vsplit rfl rfl rfl (gives_bin rfl rfl rfl (fun w => bin_lss w)) (fun h17 => ?_) (fun h17 => ?_)
  · have q17 := of_decide_eq_true h17
    have hi2 : (i + j) / 2 < l.length := by omega
    obtain ⟨x, hx⟩ : ∃ x, l[(i + j) / 2]? = some x := ⟨_, List.getElem?_eq_getElem hi2⟩
    obtain ⟨b2, o2, hA2, hbb2, hc2⟩ := hr.ad (by omega) (by decide)
    refine TL.end_ ?_
    refine TX.then_ ?_
    refine TC.condT rfl ?_
    refine TC.skip_ ?_
    refine TX.then_ ?_
    refine TC.block ?_
    refine TC.seq_ ?_
    refine TC.region ?_
    refine TL.val rfl rfl rfl (gives_move rfl rfl) ?_
    refine TL.val rfl rfl rfl (gives_move rfl rfl) ?_
    refine TL.val rfl rfl rfl (gives_bin rfl rfl rfl (fun w => bin_add_ (r := ((i + j : Nat) : Int)) (by simp only [IntKind.wrap_i64]; omega) w)) ?_
    refine TL.val rfl rfl rfl (gives_conv rfl rfl (fun w => conv_fit (k := .i64) Try.underlying88 Try.underlying3 (by simp only [IntKind.wrap_u64]; omega) w)) ?_
    refine TL.val rfl rfl rfl (gives_bin (v := .int .u64 (((i + j) / 2 : Nat) : Int)) rfl rfl rfl (fun w => bin_shr 2 (by decide) (by decide) (by decide) w)) ?_
    refine TL.val rfl rfl rfl (gives_conv rfl rfl (fun w => conv_fit (k := .u64) Try.underlying3 Try.underlying88 (by simp only [IntKind.wrap_i64]; omega) w)) ?_
    refine TL.val rfl rfl rfl (gives_assign rfl rfl) ?_
    refine TL.end_ ?_
    refine TX.then_ ?_
    refine TC.seq_ ?_
    refine TC.region ?_
    refine TL.val rfl rfl rfl (gives_move rfl rfl) ?_
    refine TL.val rfl rfl rfl (gives_move rfl rfl) ?_
    refine TL.val rfl rfl rfl (gives_move rfl rfl) ?_
    refine TL.val rfl rfl rfl (gives_at (v := .pointer (some ⟨b2, o2 + ((i + j) / 2) * 3, none⟩)) rfl rfl rfl (fun w => at_el Try.underlying26 ufisz42 hA2 _ _ ((i + j) / 2) hi2 rfl w)) ?_
    refine TL.val rfl rfl rfl (gives_loadR rfl rfl ufiag42 ufisz42 (fc_cells_len x) (fun w1 hw j u hu => (hw.bel.cell hbb2).trans (fcs_cell hx hc2 j u hu))) ?_
    refine TL.val rfl rfl rfl (gives_move rfl rfl) ?_
    refine TL.callE1 (r := .int .i64 (cmp3 x.id id)) rfl rfl rfl (ent_val rfl rfl rfl Try.func53 ufinm53 ufibd53 rfl) (fun w1 hw => findf_any x id w1) ?_
    refine TL.vsplit rfl rfl rfl (gives_bin rfl rfl rfl (fun w => bin_lss w)) (fun h31 => ?_) (fun h31 => ?_)
    · have q31 := of_decide_eq_true h31
      have h3 := cmp3_neg.1 q31
      refine TL.end_ ?_
      refine TX.then_ ?_
      refine TC.condT rfl ?_
      refine TC.region ?_
      refine TL.val rfl rfl rfl (gives_move rfl rfl) ?_
      refine TL.val rfl rfl rfl (gives_bin rfl rfl rfl (fun w => bin_add_ (r := (((i + j) / 2 + 1 : Nat) : Int)) (by simp only [IntKind.wrap_i64]; omega) w)) ?_
      refine TL.val rfl rfl rfl (gives_assign rfl rfl) ?_
      refine TL.end_ ?_
      refine TX.in_normal ?_
      exact TX.round (⟨((i + j) / 2 + 1, j), by dsimp only; omega, hj2, fun p y hp hlt => (by dsimp only at hlt; rcases Nat.lt_or_ge p ((i + j) / 2) with hh | hh; (exact Int.lt_trans (ha p _ y x hh hp hx) h3); (obtain rfl : p = (i + j) / 2 := by omega); have hxy := hx.symm.trans hp; cases hxy; exact h3), h2⟩) (by dsimp only; omega) ⟨rfl, rfl, rfl, rfl, rfl, rfl, trivial⟩ (fun w1 hw => hw)
    · have q31 := of_decide_eq_false h31
      have h3 : ¬ x.id < id := fun hh => q31 (cmp3_neg.2 hh)
      refine TL.end_ ?_
      refine TX.then_ ?_
      refine TC.condF rfl ?_
      refine TC.region ?_
      refine TL.val rfl rfl rfl (gives_move rfl rfl) ?_
      refine TL.val rfl rfl rfl (gives_assign rfl rfl) ?_
      refine TL.end_ ?_
      refine TX.in_normal ?_
      exact TX.round (⟨(i, (i + j) / 2), by dsimp only; omega, by dsimp only; omega, h1, fun p y hp hle => (by dsimp only at hle; rcases Nat.lt_or_ge ((i + j) / 2) p with hh | hh; (have := ha _ p x y hh hx hp; omega); (obtain rfl : p = (i + j) / 2 := by omega); have hxy := hx.symm.trans hp; cases hxy; exact h3)⟩) (by dsimp only; omega) ⟨rfl, rfl, rfl, rfl, rfl, rfl, trivial⟩ (fun w1 hw => hw)
  · have q17 := of_decide_eq_false h17
    refine TL.end_ ?_
    refine TX.then_ ?_
    refine TC.condF rfl ?_
    refine TC.exit_ ?_
    refine TX.then_exit ?_
    refine TX.then_exit ?_
    refine TX.in_same ?_
    refine TX.then_ ?_
    refine TC.seq_ ?_
    refine TC.region ?_
    refine TL.val rfl rfl rfl (gives_move rfl rfl) ?_
    refine TL.val rfl rfl rfl (gives_move rfl rfl) ?_
    refine TL.val rfl rfl rfl (gives_move rfl rfl) ?_
    refine TL.vsplit rfl rfl rfl (gives_bin rfl rfl rfl (fun w => bin_lss w)) (fun h38 => ?_) (fun h38 => ?_)
    · have q38 := of_decide_eq_true h38
      have hi2 : i < l.length := by omega
      obtain ⟨x, hx⟩ : ∃ x, l[i]? = some x := ⟨_, List.getElem?_eq_getElem hi2⟩
      obtain ⟨b2, o2, hA2, hbb2, hc2⟩ := hr.ad (by omega) (by decide)
      refine TL.val rfl rfl rfl (gives_move rfl rfl) ?_
      refine TL.on rfl rfl rfl ?_
      refine TL.val rfl rfl rfl (gives_move rfl rfl) ?_
      refine TL.on rfl rfl rfl ?_
      refine TL.val rfl rfl rfl (gives_move rfl rfl) ?_
      refine TL.on rfl rfl rfl ?_
      refine TL.val rfl rfl rfl (gives_move rfl rfl) ?_
      refine TL.on rfl rfl rfl ?_
      refine TL.val rfl rfl rfl (gives_at (v := .pointer (some ⟨b2, o2 + i * 3, none⟩)) rfl rfl rfl (fun w => at_el Try.underlying26 ufisz42 hA2 _ _ i hi2 rfl w)) ?_
      refine TL.on rfl rfl rfl ?_
      refine TL.val rfl rfl rfl (gives_loadR rfl rfl ufiag42 ufisz42 (fc_cells_len x) (fun w1 hw j u hu => (hw.bel.cell hbb2).trans (fcs_cell hx hc2 j u hu))) ?_
      refine TL.on rfl rfl rfl ?_
      refine TL.val rfl rfl rfl (gives_move rfl rfl) ?_
      refine TL.on rfl rfl rfl ?_
      refine TL.callE1 (r := .int .i64 (cmp3 x.id id)) rfl rfl rfl (ent_val rfl rfl rfl Try.func53 ufinm53 ufibd53 rfl) (fun w1 hw => findf_any x id w1) ?_
      refine TL.on rfl rfl rfl ?_
      refine TL.vsplit rfl rfl rfl (gives_bin rfl rfl rfl (fun w => bin_eql w)) (fun h47 => ?_) (fun h47 => ?_)
      · have q47 := of_decide_eq_true h47
        refine TL.val rfl rfl rfl (gives_pick rfl rfl rfl) ?_
        refine TL.val rfl rfl rfl (gives_assign rfl rfl) ?_
        refine TL.val rfl rfl rfl (gives_assign rfl rfl) ?_
        refine TL.end_ ?_
        refine TX.then_ ?_
        refine TC.ret_ ?_
        obtain rfl : i = j := by omega
        exact ret_pair Try.results52 rfl rfl (fun w1 hw => ⟨⟨(i, true), ⟨⟨hj2, fun p x hp => ⟨fun hlt => h1 p x hp hlt, fun hlt => Nat.lt_of_not_le fun hh => by have := h2 p x hp hh; omega⟩⟩, fun _ => ⟨x, hx, cmp3_zero.1 q47⟩, fun _ => rfl⟩⟩, rfl, hw.bel⟩)
      · have q47 := of_decide_eq_false h47
        refine TL.val rfl rfl rfl (gives_pick rfl rfl rfl) ?_
        refine TL.val rfl rfl rfl (gives_assign rfl rfl) ?_
        refine TL.val rfl rfl rfl (gives_assign rfl rfl) ?_
        refine TL.end_ ?_
        refine TX.then_ ?_
        refine TC.ret_ ?_
        obtain rfl : i = j := by omega
        exact ret_pair Try.results52 rfl rfl (fun w1 hw => ⟨⟨(i, false), ⟨⟨hj2, fun p x hp => ⟨fun hlt => h1 p x hp hlt, fun hlt => Nat.lt_of_not_le fun hh => by have := h2 p x hp hh; omega⟩⟩, fun hh => (by cases hh), fun ⟨y, hy, e⟩ => absurd (cmp3_zero.2 (by have hxy := hx.symm.trans hy; cases hxy; exact e)) q47⟩⟩, rfl, hw.bel⟩)
    · have q38 := of_decide_eq_false h38
      refine TL.val rfl rfl rfl (gives_move rfl rfl) ?_
      refine TL.off rfl rfl rfl rfl rfl rfl ?_
      refine TL.off rfl rfl rfl rfl rfl rfl ?_
      refine TL.off rfl rfl rfl rfl rfl rfl ?_
      refine TL.off rfl rfl rfl rfl rfl rfl ?_
      refine TL.off rfl rfl rfl rfl rfl rfl ?_
      refine TL.off rfl rfl rfl rfl rfl rfl ?_
      refine TL.off rfl rfl rfl rfl rfl rfl ?_
      refine TL.off rfl rfl rfl rfl rfl rfl ?_
      refine TL.val rfl rfl rfl (gives_pick rfl rfl rfl) ?_
      refine TL.val rfl rfl rfl (gives_assign rfl rfl) ?_
      refine TL.val rfl rfl rfl (gives_assign rfl rfl) ?_
      refine TL.end_ ?_
      refine TX.then_ ?_
      refine TC.ret_ ?_
      obtain rfl : i = j := by omega
      exact ret_pair Try.results52 rfl rfl (fun w1 hw => ⟨⟨(i, false), ⟨⟨hj2, fun p x hp => ⟨fun hlt => h1 p x hp hlt, fun hlt => Nat.lt_of_not_le fun hh => by have := h2 p x hp hh; omega⟩⟩, fun hh => (by cases hh), fun ⟨y, hy, _⟩ => absurd (List.getElem?_eq_some_iff.1 hy).1 (by dsimp only; omega)⟩⟩, rfl, hw.bel⟩)
set_option maxHeartbeats 1000000 in
theorem find_any (A0 : Option Addr) (n0 c0 : Nat) (l : List Fc) (w : World) (hr : Reads w w.heap.size 3 A0 n0 (fcs l)) (hl : l.length = n0) (hl1 : l.length ≤ 100000) (ha : Asc l) (id : Int) :
    Calls Try.prog 41 #[.slice A0 n0 c0, .int .i64 id] w fun e w' => ∃ x : {y : Nat × Bool // FindOk l id y}, e = .returned (.tuple #[.int .i64 ((x.1.1 : Nat) : Int), .bool x.1.2]) ∧ Below w.heap.size w w' := by
  subst hl
  refine begin_ (vs := [.slice A0 l.length c0, .int .i64 id]) Try.func41 rfl rfl rfl ?_ (Pm.start w)
  refine TC.seq_ ?_
  refine TC.region ?_
  refine TL.val rfl rfl rfl (gives_assign rfl rfl) ?_
  refine TL.val rfl rfl rfl (gives_assign rfl rfl) ?_
  refine TL.end_ ?_
  refine TX.then_ ?_
  refine TC.seq_ ?_
  refine TC.region ?_
  refine TL.val rfl rfl rfl (gives_move rfl rfl) ?_
  refine TL.val rfl rfl rfl (gives_move rfl rfl) ?_
  refine TL.pcallPm (α := {y : Nat × Bool // FindOk l id y}) (fun y => .tuple #[.int .i64 ((y.1.1 : Nat) : Int), .bool y.1.2]) (fun y => []) rfl rfl rfl rfl rfl Try.func52 ufinm52 ufibd52 (fun w1 hw => (bsf_any A0 _ c0 l w1 ((hr.below hw.bel).more hw.bel.size) rfl (by omega) ha id).mono fun e w2 ⟨x, h1, h2⟩ => ⟨x, h1, (Pm.start w1).below h2⟩) ?_
  rintro ⟨⟨i, b⟩, hib⟩
  dsimp only [List.cons_append, List.nil_append]
  refine TL.val rfl rfl rfl (gives_extract rfl rfl rfl) ?_
  refine TL.val rfl rfl rfl (gives_extract rfl rfl rfl) ?_
  refine TL.val rfl rfl rfl (gives_assign rfl rfl) ?_
  refine TL.val rfl rfl rfl (gives_assign rfl rfl) ?_
  refine TL.end_ ?_
  refine TX.then_ ?_
  refine TC.ret_ ?_
  exact ret_pair Try.results41 rfl rfl (fun w1 hw => ⟨⟨(i, b), hib⟩, rfl, hw.bel⟩)
end Go.Proofs.Ytleckflmckbheaa

namespace Go.Proofs.Ytleckflmckbheaa
open Go.RowKit
set_option linter.unusedVariables false
set_option linter.unusedSimpArgs false
set_option maxRecDepth 20000
section
variable {P : Program} {N : Fr} {E : Env} {I : World → Prop} {o : Oper}
theorem gives_bin2 {op : BinOp} {xt yt : TypeId} {x y : Operand} {vx vy v : Value} (ho : o.op = .binOp op xt x y yt) (hx : ev E x = some vx) (hy : ev E y = some vy)
    (hv : ∀ w : World, (do eqGuard op xt x y vx vy; binOp op xt vx vy : Sem Value).run P w = .ok v w) : Gives P N o E I v := fun a w ha _ => by
  unfold execOp; rw [ho]
  simp only [ha.eval hx, ha.eval hy]
  have := hv w
  simp only [Sem.run_bind] at this ⊢
  rw [this]
  rfl
theorem slice_nil {xt e : TypeId} (hu : P.underlying xt = some (.slice e)) {x y : Operand} {A : Option Addr} {n c : Nat} (w : World) :
    (do eqGuard .eql xt x y (.slice A n c) (.slice none 0 0); binOp .eql xt (.slice A n c) (.slice none 0 0) : Sem Value).run P w = .ok (.bool A.isNone) w := by
  cases A <;> simp [eqGuard, binOp, go_sem, run_underlying hu, Op.equal, Op.maxDepth, Lib.run_equalIn_slice_nil w 9999 xt e _ n c 0 0 hu]
end
end Go.Proofs.Ytleckflmckbheaa

namespace Go.Proofs.Ytleckflmckbheaa
open Go.RowKit
set_option linter.unusedVariables false
set_option linter.unusedSimpArgs false
set_option maxRecDepth 20000
theorem fcs_clear (q r : List Fc) (m : Nat) (hm : q.length = m) (hr : r.length = 1) : (fcs (q ++ r)).take (m * 3) ++ Fc.zero.cells ++ (fcs (q ++ r)).drop (m * 3 + Fc.zero.cells.length) = fcs (q ++ [Fc.zero]) := by
  subst hm
  rw [fcs_take, List.take_left, List.drop_eq_nil_of_le (by rw [fcs_len, List.length_append, hr, fc_cells_len]; omega), List.append_nil, fcs_app]
  rfl
theorem urebs26_0_0  (w : World) : (Instr.buildSlice 26 0 #[]).run Try.prog w = .ok (.slice (some ⟨w.heap.size, 0, none⟩) 0 0) (w.alloc (.cells [].toArray 42)) := by kernel_rfl
theorem ureel26 : Elem Try.prog 26 42 3 16 := Elem.mk' Try.underlying26 (z := .agg #[.int .i64 0, .int .u32 0, .int .u32 0]) (by kernel_rfl) rfl (by omega) (by omega)
theorem uresz42 (w : World) : (sizeOf 42).run Try.prog w = .ok 3 w := rfl
theorem urezv42 (w : World) : (zeroValue 42).run Try.prog w = .ok (.agg #[.int .i64 0, .int .u32 0, .int .u32 0]) w := rfl
theorem urenm22 : (Try.f22.name == "runtime.NumGoroutine") = false := by decide
theorem urebd22 : Try.f22.body.isNone = false := rfl
theorem urenm41 : (Try.f41.name == "runtime.NumGoroutine") = false := by decide
theorem urebd41 : Try.f41.body.isNone = false := rfl
theorem urenm43 : (Try.f43.name == "runtime.NumGoroutine") = false := by decide
theorem urebd43 : Try.f43.body.isNone = false := rfl
theorem urenm42 : (Try.f42.name == "runtime.NumGoroutine") = false := by decide
theorem urebd42 : Try.f42.body.isNone = false := rfl
set_option maxHeartbeats 1000000 in
theorem fclone_nil (n0 c0 : Nat) (w : World) : Calls Try.prog 43 #[.slice none n0 c0] w fun e w' => e = .returned (.slice none 0 0) ∧ Below w.heap.size w w' := by
  refine begin_ (vs := [.slice none n0 c0]) Try.func43 rfl rfl rfl ?_ (Pm.start w)
  refine TC.seq_ ?_
  refine TC.region ?_
  refine TL.val rfl rfl rfl (gives_assign rfl rfl) ?_
  refine TL.end_ ?_
  refine TX.then_ ?_
  refine TC.seq_ ?_
  refine TC.seq_ ?_
  refine TC.region ?_
  refine TL.val rfl rfl rfl (gives_move rfl rfl) ?_
  refine TL.val rfl rfl rfl (gives_bin2 (v := .bool true) rfl rfl rfl (fun w => slice_nil Try.underlying26 w)) ?_
  refine TL.end_ ?_
  refine TX.then_ ?_
  refine TC.condT rfl ?_
  refine TC.seq_ ?_
  refine TC.region ?_
  refine TL.val rfl rfl rfl (gives_assign rfl rfl) ?_
  refine TL.end_ ?_
  refine TX.then_ ?_
  refine TC.ret_ ?_
  refine TX.then_ret ?_
  exact ret_tmp Try.results43 rfl (fun w1 hw => ⟨rfl, hw.bel⟩)
set_option maxHeartbeats 1000000 in
theorem fclone_some (ad : Addr) (c0 : Nat) (l : List Fc) (w : World) (hr : Reads w w.heap.size 3 (some ad) l.length (fcs l)) (hl1 : l.length ≤ 100000) : Calls Try.prog 43 #[.slice (some ad) l.length c0] w fun e w' => ∃ x : {p : Option Addr × Nat // l.length ≤ p.2 ∧ p.2 ≤ maxLen}, e = .returned (.slice x.1.1 l.length x.1.2) ∧ Pm w [.row (.slice x.1.1 l.length x.1.2) 42 3 l.length (fcs l)] w' := by
  refine begin_ (vs := [.slice (some ad) l.length c0]) Try.func43 rfl rfl rfl ?_ (Pm.start w)
  refine TC.seq_ ?_
  refine TC.region ?_
  refine TL.val rfl rfl rfl (gives_assign rfl rfl) ?_
  refine TL.end_ ?_
  refine TX.then_ ?_
  refine TC.seq_ ?_
  refine TC.seq_ ?_
  refine TC.region ?_
  refine TL.val rfl rfl rfl (gives_move rfl rfl) ?_
  refine TL.val rfl rfl rfl (gives_bin2 (v := .bool false) rfl rfl rfl (fun w => slice_nil Try.underlying26 w)) ?_
  refine TL.end_ ?_
  refine TX.then_ ?_
  refine TC.condF rfl ?_
  refine TC.skip_ ?_
  refine TX.then_ ?_
  refine TC.seq_ ?_
  refine TC.region ?_
  refine TL.prowS (e := 42) (size := 3) (cs := fcs []) rfl rfl rfl rfl rfl (fun w => urebs26_0_0  w) (by decide) rfl (fun g5 => ?_)
  refine TL.val rfl rfl rfl (gives_move rfl rfl) ?_
  refine TL.appendT (k := 0) rfl rfl rfl rfl Try.underlying26 ureel26 rfl rfl rfl (fun w1 hw => ⟨_, hr.below hw.bel⟩) (fcs_one _) (by show _ * 16 ≤ _; omega) (l.length) ((Nat.zero_add _).symm) (fcs l) (rfl) (fun A7 c7 hA71 hA72 => ?_)
  refine TL.val rfl rfl rfl (gives_assign rfl rfl) ?_
  refine TL.end_ ?_
  refine TX.then_ ?_
  refine TC.ret_ ?_
  exact ret_tmp Try.results43 rfl (fun w1 hw => ⟨⟨(A7, c7), hA71, hA72⟩, rfl, hw.pick [0] (by decide) rfl⟩)
theorem fclone_any (A0 : Option Addr) (n0 c0 : Nat) (l : List Fc) (w : World) (hr : Reads w w.heap.size 3 A0 n0 (fcs l)) (hl : l.length = n0) (hl1 : l.length ≤ 100000) : Calls Try.prog 43 #[.slice A0 n0 c0] w fun e w' => ∃ x : {p : Option Addr × Nat // l.length ≤ p.2 ∧ p.2 ≤ maxLen}, e = .returned (.slice x.1.1 l.length x.1.2) ∧ Pm w [.row (.slice x.1.1 l.length x.1.2) 42 3 l.length (fcs l)] w' := by
  subst hl
  cases A0 with
  | none =>
    have h0 : l = [] := by
      rcases Nat.eq_zero_or_pos l.length with h0 | h0
      · exact List.eq_nil_of_length_eq_zero h0
      · obtain ⟨_, _, e, _⟩ := hr.ad h0 (by decide); cases e
    subst h0
    exact (fclone_nil _ c0 w).mono fun e w1 ⟨h1, h2⟩ => ⟨⟨(none, 0), Nat.le_refl _, Nat.zero_le _⟩, h1, ((Pm.start w).below h2).nilrow _ _⟩
  | some ad => exact fclone_some ad c0 l w hr hl1
set_option maxHeartbeats 1000000 in
theorem del_any (g c i : Nat) (l : List Fc) (w : World) (h : RwG 42 3 w g l.length c (fcs l)) (hi : i < l.length) (hl1 : l.length ≤ 100000) : Calls Try.prog 42 #[.slice (some ⟨g, 0, none⟩) l.length c, .int .i64 ((i : Nat) : Int), .int .i64 ((i + 1 : Nat) : Int)] w fun e w' => e = .returned (.slice (some ⟨g, 0, none⟩) (l.length - 1) c) ∧ RwG 42 3 w' g (l.length - 1) c (fcs (l.eraseIdx i)) ∧ w.grownBy w' (some g) := by
  obtain ⟨_, hnc, hcm⟩ := h.obj
  refine begin_ (vs := [.slice (some ⟨g, 0, none⟩) l.length c, .int .i64 ((i : Nat) : Int), .int .i64 ((i + 1 : Nat) : Int)]) (I := Pm ⟨wbut w g, g⟩ (.row (.slice (some ⟨g, 0, none⟩) l.length c) 42 3 l.length (fcs l) :: oths g w)) Try.func42 rfl rfl rfl ?_ (Pm.rowStartG h)
  refine TC.seq_ ?_
  refine TC.region ?_
  refine TL.val rfl rfl rfl (gives_assign rfl rfl) ?_
  refine TL.end_ ?_
  refine TX.then_ ?_
  refine TC.seq_ ?_
  refine TC.region ?_
  refine TL.val rfl rfl rfl (gives_move rfl rfl) ?_
  refine TL.val rfl rfl rfl (gives_move rfl rfl) ?_
  refine TL.val rfl rfl rfl (gives_move rfl rfl) ?_
  refine TL.val rfl rfl rfl (gives_move rfl rfl) ?_
  refine TL.val rfl rfl rfl (gives_len rfl Try.underlying26 rfl) ?_
  refine TL.val rfl rfl rfl (gives_slice3 (i := i) (j := i + 1) (m := l.length) rfl rfl rfl rfl rfl Try.underlying26 uresz42 (by omega) (by omega) hnc) ?_
  refine TL.end_ ?_
  refine TX.then_ ?_
  refine TC.seq_ ?_
  refine TC.seq_ ?_
  refine TC.region ?_
  refine TL.val rfl rfl rfl (gives_move rfl rfl) ?_
  refine TL.val rfl rfl rfl (gives_move rfl rfl) ?_
  refine TL.val rfl rfl rfl (gives_bin rfl rfl rfl (fun w => bin_eql_f (by omega) w)) ?_
  refine TL.end_ ?_
  refine TX.then_ ?_
  refine TC.condF rfl ?_
  refine TC.skip_ ?_
  refine TX.then_ ?_
  refine TC.seq_ ?_
  refine TC.region ?_
  refine TL.val rfl rfl rfl (gives_move rfl rfl) ?_
  refine TL.val rfl rfl rfl (gives_len rfl Try.underlying26 rfl) ?_
  refine TL.val rfl rfl rfl (gives_assign rfl rfl) ?_
  refine TL.end_ ?_
  refine TX.then_ ?_
  refine TC.seq_ ?_
  refine TC.tail 6 (by kernel_rfl) (by kernel_rfl) (fun w hw => hw.drawn _) ?_
  refine TS.val rfl rfl rfl (gives_move rfl rfl) ?_
  refine TS.val rfl rfl rfl (gives_move rfl rfl) ?_
  refine TS.val rfl rfl rfl (gives_sliceH (v := .slice (some ⟨g, 0, none⟩) i c) rfl rfl rfl (fun w => cut_hi Try.underlying26 uresz42 _ _ _ i rfl (by omega) w)) ?_
  refine TS.val rfl rfl rfl (gives_move rfl rfl) ?_
  refine TS.val rfl rfl rfl (gives_move rfl rfl) ?_
  refine TS.val rfl rfl rfl (gives_sliceL (v := .slice (if c = i + 1 then (some ⟨g, 0, none⟩ : Option Addr) else (some ⟨g, 0, none⟩ : Option Addr).map (·.add ((i + 1) * 3))) (l.length - (i + 1)) (c - (i + 1))) rfl rfl rfl (fun w => cut_lo Try.underlying26 uresz42 _ _ _ (i + 1) rfl (by omega) w)) ?_
  refine TS.end_ ?_
  refine TL.shift (k := 0) (i := i) (j := i + 1) (M := l.length - 1) (xs' := fcs (l.take i ++ l.drop (i + 1) ++ l.drop (l.length - 1))) rfl rfl rfl rfl ureel26 rfl rfl rfl (fun hh => by rw [if_neg (by omega), Option.map_some]; congr 1; unfold Addr.add; split <;> simp_all) (by split <;> simp) (by omega) (by omega) hnc (fcs_one l) (by rw [fcs_take, fcs_drop, fcs_app, fcs_app, fcs_len, List.length_drop, ← Nat.add_mul, fcs_drop, show i + (l.length - (i + 1)) = l.length - 1 by omega]) (by omega) ?_
  try dsimp only [List.set_cons_zero]
  refine TL.val rfl rfl rfl (gives_assign rfl rfl) ?_
  refine TL.end_ ?_
  refine TX.then_ ?_
  refine TC.seq_ ?_
  refine TC.region ?_
  refine TL.val rfl rfl rfl (gives_move rfl rfl) ?_
  refine TL.val rfl rfl rfl (gives_move rfl rfl) ?_
  refine TL.val rfl rfl rfl (gives_len rfl Try.underlying26 rfl) ?_
  refine TL.val rfl rfl rfl (gives_move rfl rfl) ?_
  refine TL.val rfl rfl rfl (gives_slice (v := .slice (some ⟨g, (l.length - 1) * 3, none⟩) 1 (c - (l.length - 1))) rfl rfl rfl rfl (fun w => by rw [cut_lh Try.underlying26 uresz42 _ _ _ (l.length - 1) l.length rfl rfl (by omega) hnc w, if_neg (by omega), show l.length - (l.length - 1) = 1 by omega, Option.map_some, show (⟨g, 0, none⟩ : Addr).add ((l.length - 1) * 3) = ⟨g, (l.length - 1) * 3, none⟩ by unfold Addr.add; split <;> simp_all])) ?_
  refine TL.rowclear (k := 0) (z := .agg #[.int .i64 0, .int .u32 0, .int .u32 0]) (zs := Fc.zero.cells) rfl rfl rfl rfl Try.underlying26 urezv42 (by kernel_rfl) (fc_one _) (by decide) rfl (by rw [fcs_len]; simp only [List.length_append, List.length_take, List.length_drop, fc_cells_len]; omega) (fcs_clear _ _ _ (by simp only [List.length_append, List.length_take, List.length_drop]; omega) (by rw [List.length_drop]; omega)) ?_
  try dsimp only [List.set_cons_zero]
  refine TL.end_ ?_
  refine TX.then_ ?_
  refine TC.seq_ ?_
  refine TC.region ?_
  refine TL.val rfl rfl rfl (gives_move rfl rfl) ?_
  refine TL.val rfl rfl rfl (gives_assign rfl rfl) ?_
  refine TL.end_ ?_
  refine TX.then_ ?_
  refine TC.ret_ ?_
  exact ret_tmp Try.results42 rfl (fun w1 hw => ⟨rfl, by have h2 := RwG.head (pm_rowAtG hw (k := 0) rfl) (show l.length - 1 ≤ l.length by omega); rw [fcs_take, List.take_left' (by simp only [List.length_append, List.length_take, List.length_drop]; omega), ← List.eraseIdx_eq_take_drop_succ] at h2; exact h2, hw.mapEnd (fun q hq => by simp [hq])⟩)
set_option maxHeartbeats 1000000 in
theorem rem_any (A0 : Option Addr) (n0 c0 : Nat) (l : List Fc) (w : World) (hr : Reads w w.heap.size 3 A0 n0 (fcs l)) (hl : l.length = n0) (id : Int) :
    Calls Try.prog 20 #[.slice A0 n0 c0, .int .i64 id] w fun e w' => ∃ x : {y : (Option Addr × Nat) × List Fc × Int // y.2 = remP l id ∧ y.2.1.length ≤ y.1.2 ∧ y.1.2 ≤ maxLen}, e = .returned (.tuple #[.slice x.1.1.1 x.1.2.1.length x.1.1.2, .int .i64 x.1.2.2]) ∧ Pm w [.row (.slice x.1.1.1 x.1.2.1.length x.1.1.2) 42 3 x.1.2.1.length (fcs x.1.2.1)] w' := by
  subst hl
  refine begin_ (vs := [.slice A0 l.length c0, .int .i64 id]) Try.func20 rfl rfl rfl ?_ (Pm.start w)
  refine TC.seq_ ?_
  refine TC.region ?_
  refine TL.val rfl rfl rfl (gives_assign rfl rfl) ?_
  refine TL.val rfl rfl rfl (gives_assign rfl rfl) ?_
  refine TL.end_ ?_
  refine TX.then_ ?_
  refine TC.seq_ ?_
  refine TC.seq_ ?_
  refine TC.region ?_
  refine TL.val rfl rfl rfl (gives_move rfl rfl) ?_
  refine TL.callsplit rfl rfl rfl rfl rfl Try.func22 urenm22 urebd22 (fun w1 hw => valid_any A0 _ c0 l w1 ((hr.below hw.bel).more hw.bel.size) rfl) (fun h9 => ?_) (fun h9 => ?_)
  · have hV : validF l := of_decide_eq_true h9
    have hl1 : l.length ≤ 1024 := hV.1
    refine TL.val rfl rfl rfl (gives_boolnot rfl rfl) ?_
    refine TL.end_ ?_
    refine TX.then_ ?_
    refine TC.condF rfl ?_
    refine TC.skip_ ?_
    refine TX.then_ ?_
    refine TC.seq_ ?_
    refine TC.region ?_
    refine TL.val rfl rfl rfl (gives_move rfl rfl) ?_
    refine TL.val rfl rfl rfl (gives_move rfl rfl) ?_
    refine TL.pcallPm (α := {y : Nat × Bool // FindOk l id y}) (fun y => .tuple #[.int .i64 ((y.1.1 : Nat) : Int), .bool y.1.2]) (fun y => []) rfl rfl rfl rfl rfl Try.func41 urenm41 urebd41 (fun w1 hw => (find_any A0 _ c0 l w1 ((hr.below hw.bel).more hw.bel.size) rfl (by omega) hV.asc id).mono fun e w2 ⟨x, h1, h2⟩ => ⟨x, h1, (Pm.start w1).below h2⟩) ?_
    rintro ⟨⟨i, b⟩, hib⟩
    dsimp only [List.cons_append, List.nil_append]
    try dsimp only at hib
    refine TL.val rfl rfl rfl (gives_move rfl rfl) ?_
    refine TL.val rfl rfl rfl (gives_extract rfl rfl rfl) ?_
    refine TL.val rfl rfl rfl (gives_extract rfl rfl rfl) ?_
    refine TL.val rfl rfl rfl (gives_assign rfl rfl) ?_
    refine TL.val rfl rfl rfl (gives_assign rfl rfl) ?_
    refine TL.end_ ?_
    refine TX.then_ ?_
    refine TC.seq_ ?_
    refine TC.seq_ ?_
    refine TC.region ?_
    refine TL.vsplit rfl rfl rfl (gives_move rfl rfl) (fun h17 => ?_) (fun h17 => ?_)
    · subst h17
      obtain ⟨hix, x, hx, hxi⟩ := hib.some hV.asc
      have hil := (List.getElem?_eq_some_iff.1 hx).1
      refine TL.val rfl rfl rfl (gives_boolnot rfl rfl) ?_
      refine TL.end_ ?_
      refine TX.then_ ?_
      refine TC.condF rfl ?_
      refine TC.skip_ ?_
      refine TX.then_ ?_
      refine TC.seq_ ?_
      refine TC.region ?_
      refine TL.val rfl rfl rfl (gives_move rfl rfl) ?_
      refine TL.pcallPm (α := {p : Option Addr × Nat // l.length ≤ p.2 ∧ p.2 ≤ maxLen}) (fun y => .slice y.1.1 l.length y.1.2) (fun y => [.row (.slice y.1.1 l.length y.1.2) 42 3 l.length (fcs l)]) rfl rfl rfl rfl rfl Try.func43 urenm43 urebd43 (fun w1 hw => fclone_any A0 _ c0 l w1 ((hr.below hw.bel).more hw.bel.size) rfl (by omega)) ?_
      rintro ⟨⟨AA, cc⟩, hcc1, hcc2⟩
      dsimp only [List.cons_append, List.nil_append]
      refine TL.fact (p := ∃ g, AA = some ⟨g, 0, none⟩) (fun w1 hw => rowA hw (k := 0) rfl (by omega)) ?_
      rintro ⟨g, rfl⟩
      refine TL.val rfl rfl rfl (gives_move rfl rfl) ?_
      refine TL.val rfl rfl rfl (gives_move rfl rfl) ?_
      refine TL.val rfl rfl rfl (gives_bin rfl rfl rfl (fun w => bin_add_ (r := ((i + 1 : Nat) : Int)) (by simp only [IntKind.wrap_i64]; omega) w)) ?_
      refine TL.pcallRwG (k := 0) (α := Unit) (fun _ => .slice (some ⟨g, 0, none⟩) (l.length - 1) cc) (fun _ => l.length - 1) (fun _ => fcs (l.eraseIdx i)) rfl rfl rfl rfl rfl Try.func42 urenm42 urebd42 rfl (fun w1 hw hr1 => (del_any g cc i l w1 hr1 hil (by omega)).mono fun e w2 ⟨h1, h2, h3⟩ => ⟨(), h1, h2, h3⟩) ?_
      rintro ⟨⟩
      try dsimp only [List.set_cons_zero]
      refine TL.val rfl rfl rfl (gives_assign rfl rfl) ?_
      refine TL.val rfl rfl rfl (gives_assign rfl rfl) ?_
      refine TL.end_ ?_
      refine TX.then_ ?_
      refine TC.ret_ ?_
      have hle : (l.eraseIdx i).length = l.length - 1 := by rw [List.length_eraseIdx]; rw [if_pos hil]
      exact ret_pair Try.results20 rfl rfl (fun w1 hw => ⟨⟨((some ⟨g, 0, none⟩, cc), (l.eraseIdx i, 0)), by unfold remP; rw [if_pos hV, hix], by dsimp only; omega, hcc2⟩, by dsimp only; rw [hle], by dsimp only; rw [hle]; exact hw⟩)
    · subst h17
      refine TL.val rfl rfl rfl (gives_boolnot rfl rfl) ?_
      refine TL.end_ ?_
      refine TX.then_ ?_
      refine TC.condT rfl ?_
      refine TC.seq_ ?_
      refine TC.region ?_
      refine TL.val rfl rfl rfl (gives_assign rfl rfl) ?_
      refine TL.val rfl rfl rfl (gives_assign rfl rfl) ?_
      refine TL.end_ ?_
      refine TX.then_ ?_
      refine TC.ret_ ?_
      refine TX.then_ret ?_
      exact ret_pair Try.results20 rfl rfl (fun w1 hw => ⟨⟨((none, 0), ([], 8)), by unfold remP; rw [if_pos hV, hib.none hV.asc], Nat.le_refl _, Nat.zero_le _⟩, rfl, hw.nilrow _ _⟩)
  · have hV : ¬ validF l := of_decide_eq_false h9
    refine TL.val rfl rfl rfl (gives_boolnot rfl rfl) ?_
    refine TL.end_ ?_
    refine TX.then_ ?_
    refine TC.condT rfl ?_
    refine TC.seq_ ?_
    refine TC.region ?_
    refine TL.val rfl rfl rfl (gives_assign rfl rfl) ?_
    refine TL.val rfl rfl rfl (gives_assign rfl rfl) ?_
    refine TL.end_ ?_
    refine TX.then_ ?_
    refine TC.ret_ ?_
    refine TX.then_ret ?_
    exact ret_pair Try.results20 rfl rfl (fun w1 hw => ⟨⟨((none, 0), ([], 1)), by unfold remP; rw [if_neg hV], Nat.le_refl _, Nat.zero_le _⟩, rfl, hw.nilrow _ _⟩)
end Go.Proofs.Ytleckflmckbheaa

namespace Go.Proofs.Ytleckflmckbheaa
open Go.RowKit
set_option linter.unusedVariables false
set_option linter.unusedSimpArgs false
set_option maxRecDepth 20000
theorem same_is (A0 : Option Addr) (n0 c0 : Nat) (l : List Fc) (w : World) (hr : Reads w w.heap.size 3 A0 n0 (fcs l)) (hl : l.length = n0) (hok : ∀ f ∈ l, f.Ok) (a b : Int) (har : 0 ≤ a ∧ a ≤ 4294967295) (hbr : 0 ≤ b ∧ b ≤ 4294967295) {t : Bool} (ht : decide (validF l ∧ repF l a = repF l b) = t) :
    Calls Try.prog 17 #[.slice A0 n0 c0, .int .u32 a, .int .u32 b] w fun e w' => e = .returned (.bool t) ∧ Below w.heap.size w w' := by
  subst ht
  exact same_any A0 n0 c0 l w hr hl hok a b har hbr
theorem ixF_at {l : List Fc} {id : Int} {i : Nat} (h : ixF l id = some i) : ∃ x, l[i]? = some x ∧ x.id = id := by
  unfold ixF at h
  rw [List.findIdx?_eq_some_iff_getElem] at h
  obtain ⟨hlt, h1, _⟩ := h
  exact ⟨_, List.getElem?_eq_getElem hlt, of_decide_eq_true h1⟩
theorem remP_ok {l rm : List Fc} {id : Int} (h : (rm, (0 : Int)) = remP l id) : validF l ∧ ∃ i, ixF l id = some i ∧ rm = l.eraseIdx i := by
  unfold remP at h
  by_cases hV : validF l
  · rw [if_pos hV] at h
    cases hx : ixF l id with
    | none => rw [hx] at h; simp at h
    | some i => rw [hx] at h; exact ⟨hV, i, rfl, (Prod.mk.inj h).1⟩
  · rw [if_neg hV] at h; simp at h
theorem FindOk.at_ {l : List Fc} {id : Int} {y : Nat × Bool} (h : FindOk l id y) (ha : Asc l) {i : Nat} {x : Fc} (hx : l[i]? = Option.some x) (e : x.id = id) : y.1 = i := by
  have h1 := h.1.2 i x hx
  have h2 : y.1 ≤ i := Nat.le_of_not_lt fun hh => by have := h1.1 hh; omega
  rcases Nat.lt_or_ge y.1 i with hh | hh
  · have hlt : i < l.length := (List.getElem?_eq_some_iff.1 hx).1
    obtain ⟨z, hz⟩ : ∃ z, l[y.1]? = Option.some z := ⟨_, List.getElem?_eq_getElem (by omega)⟩
    have h3 := h.1.2 y.1 z hz
    have h4 := ha _ _ z x hh hz hx
    have := h3.2 (by omega)
    omega
  · omega
/-- what Bridge says -/
def BrOk (l : List Fc) (id : Int) (y : Bool × Int) : Prop := y.2 = (remP l id).2 ∧ (y.2 ≠ 0 → y.1 = false) ∧ (y.2 = 0 → ∃ i x, ixF l id = some i ∧ l[i]? = some x ∧ (y.1 = true ↔ ¬ (validF (l.eraseIdx i) ∧ repF (l.eraseIdx i) x.a = repF (l.eraseIdx i) x.b)))
theorem BrOk.ok {l : List Fc} {id : Int} {i : Nat} {x : Fc} {b : Bool} (hV : validF l) (hi : ixF l id = some i) (hx : l[i]? = some x) (h : b = true ↔ ¬ (validF (l.eraseIdx i) ∧ repF (l.eraseIdx i) x.a = repF (l.eraseIdx i) x.b)) : BrOk l id (b, 0) :=
  ⟨by unfold remP; rw [if_pos hV, hi], fun hh => absurd rfl hh, fun _ => ⟨i, x, hi, hx, h⟩⟩
theorem BrOk.bad {l : List Fc} {id : Int} (h : (remP l id).2 ≠ 0) : BrOk l id (false, (remP l id).2) := ⟨rfl, fun _ => rfl, fun hh => absurd hh h⟩
theorem reads_up {w : World} {B size n : Nat} {A : Option Addr} {xs : List Value} (h : Reads w B size A n xs) (hb : ∀ ad, A = some ad → ad.block < w.heap.size) : Reads w w.heap.size size A n xs :=
  ⟨h.1, fun hn => by obtain ⟨ad, h1, h2, h3⟩ := h.2 hn; exact ⟨ad, h1, hb ad h1, h3⟩⟩
theorem pm_row_lt {w0 : Base} {L : List Pc} {w : World} {A : Option Addr} {e : TypeId} {size n c k : Nat} {xs : List Value} (h : Pm w0 L w) (hk : L[k]? = some (.row (.slice A n c) e size n xs)) : ∀ ad, A = some ad → ad.block < w.heap.size := fun ad hA => by
  subst hA
  exact (Pc.lt (h.at_ hk) ad.block rfl).2
theorem ubrnm20 : (Try.f20.name == "runtime.NumGoroutine") = false := by decide
theorem ubrbd20 : Try.f20.body.isNone = false := rfl
theorem ubrnm41 : (Try.f41.name == "runtime.NumGoroutine") = false := by decide
theorem ubrbd41 : Try.f41.body.isNone = false := rfl
theorem ubrsz42 (w : World) : (sizeOf 42).run Try.prog w = .ok 3 w := rfl
theorem ubrfld42_1 (g o : Nat) (w : World) : (Instr.fieldAt 42 (.pointer (some ⟨g, o, none⟩)) 1).run Try.prog w = .ok (.pointer (some ⟨g, o + 1, none⟩)) w := by kernel_rfl
theorem ubrag35 (w : World) : (isAgg 35).run Try.prog w = .ok false w := rfl
theorem ubrfld42_2 (g o : Nat) (w : World) : (Instr.fieldAt 42 (.pointer (some ⟨g, o, none⟩)) 2).run Try.prog w = .ok (.pointer (some ⟨g, o + 2, none⟩)) w := by kernel_rfl
theorem ubrnm17 : (Try.f17.name == "runtime.NumGoroutine") = false := by decide
theorem ubrbd17 : Try.f17.body.isNone = false := rfl
theorem ubrag42 (w : World) : (isAgg 42).run Try.prog w = .ok true w := rfl
theorem ubrzv42 (w : World) : (zeroValue 42).run Try.prog w = .ok (.agg #[.int .i64 0, .int .u32 0, .int .u32 0]) w := rfl
set_option maxHeartbeats 1000000 in
theorem bridge_any (A0 : Option Addr) (n0 c0 : Nat) (l : List Fc) (w : World) (hr : Reads w w.heap.size 3 A0 n0 (fcs l)) (hl : l.length = n0) (hok : ∀ f ∈ l, f.Ok) (id : Int) :
    Calls Try.prog 19 #[.slice A0 n0 c0, .int .i64 id] w fun e w' => ∃ x : {y : Bool × Int // BrOk l id y}, e = .returned (.tuple #[.bool x.1.1, .int .i64 x.1.2]) ∧ Below w.heap.size w w' := by
  subst hl
  refine begin_ (vs := [.slice A0 l.length c0, .int .i64 id]) Try.func19 rfl rfl rfl ?_ (Pm.start w)
  refine TC.seq_ ?_
  refine TC.region ?_
  refine TL.val rfl rfl rfl (gives_assign rfl rfl) ?_
  refine TL.val rfl rfl rfl (gives_assign rfl rfl) ?_
  refine TL.end_ ?_
  refine TX.then_ ?_
  refine TC.seq_ ?_
  refine TC.region ?_
  refine TL.val rfl rfl rfl (gives_move rfl rfl) ?_
  refine TL.val rfl rfl rfl (gives_move rfl rfl) ?_
  refine TL.pcallPm (α := {y : (Option Addr × Nat) × List Fc × Int // y.2 = remP l id ∧ y.2.1.length ≤ y.1.2 ∧ y.1.2 ≤ maxLen}) (fun y => .tuple #[.slice y.1.1.1 y.1.2.1.length y.1.1.2, .int .i64 y.1.2.2]) (fun y => [.row (.slice y.1.1.1 y.1.2.1.length y.1.1.2) 42 3 y.1.2.1.length (fcs y.1.2.1)]) rfl rfl rfl rfl rfl Try.func20 ubrnm20 ubrbd20 (fun w1 hw => rem_any A0 _ c0 l w1 ((hr.below hw.bel).more hw.bel.size) rfl id) ?_
  rintro ⟨⟨⟨AA, cc⟩, rm, e0⟩, hrm, hcc1, hcc2⟩
  dsimp only [List.cons_append, List.nil_append] at hrm hcc1 hcc2 ⊢
  refine TL.val rfl rfl rfl (gives_move rfl rfl) ?_
  refine TL.val rfl rfl rfl (gives_extract rfl rfl rfl) ?_
  refine TL.val rfl rfl rfl (gives_extract rfl rfl rfl) ?_
  refine TL.val rfl rfl rfl (gives_assign rfl rfl) ?_
  refine TL.val rfl rfl rfl (gives_assign rfl rfl) ?_
  refine TL.end_ ?_
  refine TX.then_ ?_
  refine TC.seq_ ?_
  refine TC.seq_ ?_
  refine TC.region ?_
  refine TL.val rfl rfl rfl (gives_move rfl rfl) ?_
  refine TL.vsplit rfl rfl rfl (gives_bin rfl rfl rfl (fun w => bin_neq w)) (fun h17 => ?_) (fun h17 => ?_)
  · have q17 := of_decide_eq_true h17
    refine TL.end_ ?_
    refine TX.then_ ?_
    refine TC.condT rfl ?_
    refine TC.seq_ ?_
    refine TC.region ?_
    refine TL.val rfl rfl rfl (gives_move rfl rfl) ?_
    refine TL.val rfl rfl rfl (gives_assign rfl rfl) ?_
    refine TL.val rfl rfl rfl (gives_assign rfl rfl) ?_
    refine TL.end_ ?_
    refine TX.then_ ?_
    refine TC.ret_ ?_
    refine TX.then_ret ?_
    exact ret_pair Try.results19 rfl rfl (fun w1 hw => ⟨⟨(false, e0), by rw [show e0 = (remP l id).2 by rw [← hrm]]; exact BrOk.bad (by rw [← hrm]; exact q17)⟩, rfl, hw.bel⟩)
  · have q17 := of_decide_eq_false h17
    have he0 : e0 = 0 := Decidable.byContradiction q17
    subst he0
    obtain ⟨hV, i0, hix, hrl⟩ := remP_ok hrm
    have hl1 : l.length ≤ 1024 := hV.1
    refine TL.end_ ?_
    refine TX.then_ ?_
    refine TC.condF rfl ?_
    refine TC.skip_ ?_
    refine TX.then_ ?_
    refine TC.seq_ ?_
    refine TC.region ?_
    refine TL.val rfl rfl rfl (gives_move rfl rfl) ?_
    refine TL.val rfl rfl rfl (gives_move rfl rfl) ?_
    refine TL.pcallPm (α := {y : Nat × Bool // FindOk l id y}) (fun y => .tuple #[.int .i64 ((y.1.1 : Nat) : Int), .bool y.1.2]) (fun y => []) rfl rfl rfl rfl rfl Try.func41 ubrnm41 ubrbd41 (fun w1 hw => (find_any A0 _ c0 l w1 ((hr.below hw.bel).more hw.bel.size) rfl (by omega) hV.asc id).mono fun e w2 ⟨x, h1, h2⟩ => ⟨x, h1, (Pm.start w1).below h2⟩) ?_
    rintro ⟨⟨i, b⟩, hib⟩
    dsimp only [List.cons_append, List.nil_append]
    refine TL.val rfl rfl rfl (gives_move rfl rfl) ?_
    refine TL.val rfl rfl rfl (gives_extract rfl rfl rfl) ?_
    refine TL.val rfl rfl rfl (gives_extract rfl rfl rfl) ?_
    refine TL.val rfl rfl rfl (gives_assign rfl rfl) ?_
    refine TL.val rfl rfl rfl (gives_assign rfl rfl) ?_
    refine TL.end_ ?_
    refine TX.then_ ?_
    refine TC.seq_ ?_
    obtain ⟨x, hx, hxi⟩ := ixF_at hix
    have hi0 : i = i0 := by have h1 := hib.at_ hV.asc hx hxi; exact h1
    subst hi0
    have hil := (List.getElem?_eq_some_iff.1 hx).1
    obtain ⟨b2, o2, hA2, hbb2, hc2⟩ := hr.ad (by omega) (by decide)
    have hxo := hok x (List.mem_of_getElem? hx)
    have hokr : ∀ f ∈ rm, f.Ok := by rw [hrl]; exact fun f hf => hok f (List.mem_of_mem_eraseIdx hf)
    rcases Classical.em (validF rm ∧ repF rm x.a = repF rm x.b) with hs | hs
    · refine TC.quiet_ (E' := ?_) (by kernel_rfl) (by kernel_rfl) (fun w hw => hw.drawn _) ?_ ?_
      rotate_left
      · refine TQ.val rfl rfl rfl (gives_move rfl rfl) ?_
        refine TQ.val rfl rfl rfl (gives_move rfl rfl) ?_
        refine TQ.val rfl rfl rfl (gives_move rfl rfl) ?_
        refine TQ.val rfl rfl rfl (gives_at (v := .pointer (some ⟨b2, o2 + i * 3, none⟩)) rfl rfl rfl (fun w => at_el Try.underlying26 ubrsz42 hA2 _ _ i hil rfl w)) ?_
        refine TQ.val rfl rfl rfl (gives_field (v := .pointer (some ⟨b2, o2 + i * 3 + 1, none⟩)) rfl rfl (fun w => ubrfld42_1 _ _ w)) ?_
        refine TQ.val rfl rfl rfl (gives_load (v := .int .u32 x.a) rfl rfl ubrag35 (fun w1 hw => (hw.bel.cell hbb2).trans (fcs_cell hx hc2 1 _ rfl))) ?_
        refine TQ.val rfl rfl rfl (gives_move rfl rfl) ?_
        refine TQ.val rfl rfl rfl (gives_move rfl rfl) ?_
        refine TQ.val rfl rfl rfl (gives_at (v := .pointer (some ⟨b2, o2 + i * 3, none⟩)) rfl rfl rfl (fun w => at_el Try.underlying26 ubrsz42 hA2 _ _ i hil rfl w)) ?_
        refine TQ.val rfl rfl rfl (gives_field (v := .pointer (some ⟨b2, o2 + i * 3 + 2, none⟩)) rfl rfl (fun w => ubrfld42_2 _ _ w)) ?_
        refine TQ.val rfl rfl rfl (gives_load (v := .int .u32 x.b) rfl rfl ubrag35 (fun w1 hw => (hw.bel.cell hbb2).trans (fcs_cell hx hc2 2 _ rfl))) ?_
        refine TQ.call (v := .bool true) rfl rfl rfl rfl rfl Try.func17 ubrnm17 ubrbd17 (fun w1 hw => (same_is AA _ cc rm w1 (by obtain ⟨B9, h8⟩ := pm_reads hw (k := 0) rfl; exact reads_up h8 (pm_row_lt hw (k := 0) rfl)) rfl hokr x.a x.b ⟨hxo.1, hxo.2.1⟩ ⟨hxo.2.2.1, hxo.2.2.2⟩ (decide_eq_true hs)).mono fun en w2 ⟨h1, h2⟩ => ⟨h1, hw.below h2⟩) ?_
        refine TQ.val rfl rfl rfl (gives_boolnot rfl rfl) ?_
        refine TQ.val rfl rfl rfl (gives_assign rfl rfl) ?_
        refine TQ.val rfl rfl rfl (gives_assign rfl rfl) ?_
        exact TQ.end_
      refine TX.then_ ?_
      refine TC.ret_ ?_
      exact ret_pair Try.results19 rfl rfl (fun w1 hw => ⟨⟨(false, 0), BrOk.ok hV hix hx (by rw [← hrl]; exact iff_of_false (by simp) (fun hh => hh hs))⟩, rfl, hw.bel⟩)
    · refine TC.quiet_ (E' := ?_) (by kernel_rfl) (by kernel_rfl) (fun w hw => hw.drawn _) ?_ ?_
      rotate_left
      · refine TQ.val rfl rfl rfl (gives_move rfl rfl) ?_
        refine TQ.val rfl rfl rfl (gives_move rfl rfl) ?_
        refine TQ.val rfl rfl rfl (gives_move rfl rfl) ?_
        refine TQ.val rfl rfl rfl (gives_at (v := .pointer (some ⟨b2, o2 + i * 3, none⟩)) rfl rfl rfl (fun w => at_el Try.underlying26 ubrsz42 hA2 _ _ i hil rfl w)) ?_
        refine TQ.val rfl rfl rfl (gives_field (v := .pointer (some ⟨b2, o2 + i * 3 + 1, none⟩)) rfl rfl (fun w => ubrfld42_1 _ _ w)) ?_
        refine TQ.val rfl rfl rfl (gives_load (v := .int .u32 x.a) rfl rfl ubrag35 (fun w1 hw => (hw.bel.cell hbb2).trans (fcs_cell hx hc2 1 _ rfl))) ?_
        refine TQ.val rfl rfl rfl (gives_move rfl rfl) ?_
        refine TQ.val rfl rfl rfl (gives_move rfl rfl) ?_
        refine TQ.val rfl rfl rfl (gives_at (v := .pointer (some ⟨b2, o2 + i * 3, none⟩)) rfl rfl rfl (fun w => at_el Try.underlying26 ubrsz42 hA2 _ _ i hil rfl w)) ?_
        refine TQ.val rfl rfl rfl (gives_field (v := .pointer (some ⟨b2, o2 + i * 3 + 2, none⟩)) rfl rfl (fun w => ubrfld42_2 _ _ w)) ?_
        refine TQ.val rfl rfl rfl (gives_load (v := .int .u32 x.b) rfl rfl ubrag35 (fun w1 hw => (hw.bel.cell hbb2).trans (fcs_cell hx hc2 2 _ rfl))) ?_
        refine TQ.call (v := .bool false) rfl rfl rfl rfl rfl Try.func17 ubrnm17 ubrbd17 (fun w1 hw => (same_is AA _ cc rm w1 (by obtain ⟨B9, h8⟩ := pm_reads hw (k := 0) rfl; exact reads_up h8 (pm_row_lt hw (k := 0) rfl)) rfl hokr x.a x.b ⟨hxo.1, hxo.2.1⟩ ⟨hxo.2.2.1, hxo.2.2.2⟩ (decide_eq_false hs)).mono fun en w2 ⟨h1, h2⟩ => ⟨h1, hw.below h2⟩) ?_
        refine TQ.val rfl rfl rfl (gives_boolnot rfl rfl) ?_
        refine TQ.val rfl rfl rfl (gives_assign rfl rfl) ?_
        refine TQ.val rfl rfl rfl (gives_assign rfl rfl) ?_
        exact TQ.end_
      refine TX.then_ ?_
      refine TC.ret_ ?_
      exact ret_pair Try.results19 rfl rfl (fun w1 hw => ⟨⟨(true, 0), BrOk.ok hV hix hx (by rw [← hrl]; exact iff_of_true rfl hs)⟩, rfl, hw.bel⟩)
set_option maxHeartbeats 1000000 in
theorem check_any (A0 : Option Addr) (n0 c0 : Nat) (l : List Fc) (w : World) (hr : Reads w w.heap.size 3 A0 n0 (fcs l)) (hl : l.length = n0) (hok : ∀ f ∈ l, f.Ok) (hl1 : l.length ≤ 100000) (a b : Int) :
    Calls Try.prog 18 #[.slice A0 n0 c0, .int .u32 a, .int .u32 b] w fun e w' => e = .returned (.bool (decide (chkF l a = some b))) ∧ Below w.heap.size w w' := by
  subst hl
  refine begin_ (vs := [.slice A0 l.length c0, .int .u32 a, .int .u32 b]) Try.func18 rfl rfl rfl ?_ (Pm.start w)
  refine TC.seq_ ?_
  refine TC.region ?_
  refine TL.val rfl rfl rfl (gives_assign rfl rfl) ?_
  refine TL.end_ ?_
  refine TX.then_ ?_
  refine TC.seq_ ?_
  refine TC.region ?_
  refine TL.val rfl rfl rfl (gives_move rfl rfl) ?_
  refine TL.val rfl rfl rfl (gives_assign rfl rfl) ?_
  refine TL.end_ ?_
  refine TX.then_ ?_
  refine TC.seq_ ?_
  refine TC.seq_ ?_
  refine TC.region ?_
  refine TL.val rfl rfl rfl (gives_move rfl rfl) ?_
  refine TL.val rfl rfl rfl (gives_len rfl Try.underlying26 rfl) ?_
  refine TL.val rfl rfl rfl (gives_move rfl rfl) ?_
  refine TL.end_ ?_
  refine TX.then_ ?_
  refine TC.block ?_
  refine TC.loop_ (α := {y : Nat × Int // y.1 ≤ l.length ∧ chkF l a = chkF (l.drop y.1) y.2}) (fun y => [(2, .int .u32 b), (7, .int .u32 y.1.2), (11, .slice A0 l.length c0), (12, .int .i64 ((l.length : Nat) : Int)), (13, .int .i64 ((y.1.1 : Nat) : Int))]) (fun y => Pm w []) (fun y => l.length - y.1.1) (⟨(0, a), Nat.zero_le _, rfl⟩) ⟨rfl, rfl, rfl, rfl, rfl, trivial⟩ (fun w1 hw => hw) ?_
  rintro ⟨⟨i, at0⟩, hi, hch⟩
  dsimp only at hi hch ⊢
  refine TC.seq_ ?_
  refine TC.region ?_
  refine TL.vsplit rfl rfl rfl (gives_bin rfl rfl rfl (fun w => bin_lss w)) (fun h14 => ?_) (fun h14 => ?_)
  · have q14 := of_decide_eq_true h14
    have hi2 : i < l.length := by omega
    obtain ⟨x, hx⟩ : ∃ x, l[i]? = some x := ⟨_, List.getElem?_eq_getElem hi2⟩
    obtain ⟨b2, o2, hA2, hbb2, hc2⟩ := hr.ad (by omega) (by decide)
    have hxo := hok x (List.mem_of_getElem? hx)
    have htk : l.take (i + 1) = l.take i ++ [x] := by rw [List.take_add_one, hx]; rfl
    have hdr : l.drop i = x :: l.drop (i + 1) := by rw [← (List.getElem?_eq_some_iff.1 hx).2]; exact List.drop_eq_getElem_cons hi2
    refine TL.end_ ?_
    refine TX.then_ ?_
    refine TC.seq_ ?_
    refine TC.condT rfl ?_
    refine TC.skip_ ?_
    refine TX.then_ ?_
    refine TC.seq_ ?_
    refine TC.block ?_
    refine TC.seq_ ?_
    refine TC.region ?_
    refine TL.val rfl rfl rfl (gives_at (v := .pointer (some ⟨b2, o2 + i * 3, none⟩)) rfl rfl rfl (fun w => at_el Try.underlying26 ubrsz42 hA2 _ _ i hi2 rfl w)) ?_
    refine TL.val rfl rfl rfl (gives_loadR rfl rfl ubrag42 ubrsz42 (fc_cells_len x) (fun w1 hw j u hu => (hw.bel.cell hbb2).trans (fcs_cell hx hc2 j u hu))) ?_
    refine TL.pnew rfl rfl rfl (exec_alloc (cs := [.int .i64 0, .int .u32 0, .int .u32 0]) rfl ubrzv42 rfl) (fun g9 => ?_)
    refine TL.pstore (k := 0) (vs := x.cells) rfl rfl rfl rfl rfl rfl rfl ubrsz42 (fc_one x) (by show 3 ≤ 3; decide) (L' := [.blk g9 42 x.cells]) rfl ?_
    refine TL.end_ ?_
    refine TX.then_ ?_
    refine TC.seq_ ?_
    refine TC.seq_ ?_
    have hway : x.a = x.b ∨ (¬ x.a = x.b ∧ x.a ≠ at0 ∧ x.b ≠ at0) ∨ (¬ x.a = x.b ∧ x.a ≠ at0 ∧ x.b = at0) ∨ (¬ x.a = x.b ∧ x.a = at0) := by omega
    rcases hway with p1 | ⟨p1, p2, p3⟩ | ⟨p1, p2, p3⟩ | ⟨p1, p2⟩
    · have hN : chkF l a = none := by rw [hch, hdr]; unfold chkF; rw [if_pos (.inl p1)]
      refine TC.region ?_
      refine TL.val rfl rfl rfl (gives_field (v := .pointer (some ⟨g9, 1, none⟩)) rfl rfl (fun w => ubrfld42_1 _ _ w)) ?_
      refine TL.val rfl rfl rfl (pm_load (k := 0) (i := 1) rfl rfl ubrag35 rfl rfl) ?_
      refine TL.val rfl rfl rfl (gives_field (v := .pointer (some ⟨g9, 2, none⟩)) rfl rfl (fun w => ubrfld42_2 _ _ w)) ?_
      refine TL.val rfl rfl rfl (pm_load (k := 0) (i := 2) rfl rfl ubrag35 rfl rfl) ?_
      refine TL.val rfl rfl rfl (gives_bin rfl rfl rfl (fun w => bin_eql_t (p1) w)) ?_
      refine TL.val rfl rfl rfl (gives_move rfl rfl) ?_
      refine TL.off rfl rfl rfl rfl rfl rfl ?_
      refine TL.off rfl rfl rfl rfl rfl rfl ?_
      refine TL.off rfl rfl rfl rfl rfl rfl ?_
      refine TL.off rfl rfl rfl rfl rfl rfl ?_
      refine TL.off rfl rfl rfl rfl rfl rfl ?_
      refine TL.offU rfl rfl rfl rfl rfl ?_
      refine TL.offU rfl rfl rfl rfl rfl ?_
      refine TL.offU rfl rfl rfl rfl rfl ?_
      refine TL.offU rfl rfl rfl rfl rfl ?_
      refine TL.off rfl rfl rfl rfl rfl rfl ?_
      refine TL.val rfl rfl rfl (gives_pick rfl rfl rfl) ?_
      refine TL.end_ ?_
      refine TX.then_ ?_
      refine TC.condT rfl ?_
      refine TC.seq_ ?_
      refine TC.region ?_
      refine TL.val rfl rfl rfl (gives_assign rfl rfl) ?_
      refine TL.end_ ?_
      refine TX.then_ ?_
      refine TC.ret_ ?_
      refine TX.then_ret ?_
      refine TX.in_ret ?_
      refine TX.then_ret ?_
      refine TX.then_ret ?_
      refine TX.in_ret ?_
      refine TX.then_ret ?_
      exact ret_tmp Try.results18 rfl (fun w1 hw => ⟨by rw [hN, decide_eq_false (fun hh => by cases hh)], hw.bel⟩)
    · have hN : chkF l a = none := by rw [hch, hdr]; unfold chkF; rw [if_pos (.inr ⟨p2, p3⟩)]
      refine TC.region ?_
      refine TL.val rfl rfl rfl (gives_field (v := .pointer (some ⟨g9, 1, none⟩)) rfl rfl (fun w => ubrfld42_1 _ _ w)) ?_
      refine TL.val rfl rfl rfl (pm_load (k := 0) (i := 1) rfl rfl ubrag35 rfl rfl) ?_
      refine TL.val rfl rfl rfl (gives_field (v := .pointer (some ⟨g9, 2, none⟩)) rfl rfl (fun w => ubrfld42_2 _ _ w)) ?_
      refine TL.val rfl rfl rfl (pm_load (k := 0) (i := 2) rfl rfl ubrag35 rfl rfl) ?_
      refine TL.val rfl rfl rfl (gives_bin rfl rfl rfl (fun w => bin_eql_f (p1) w)) ?_
      refine TL.val rfl rfl rfl (gives_move rfl rfl) ?_
      refine TL.on rfl rfl rfl ?_
      refine TL.val rfl rfl rfl (gives_field (v := .pointer (some ⟨g9, 1, none⟩)) rfl rfl (fun w => ubrfld42_1 _ _ w)) ?_
      refine TL.on rfl rfl rfl ?_
      refine TL.val rfl rfl rfl (pm_load (k := 0) (i := 1) rfl rfl ubrag35 rfl rfl) ?_
      refine TL.on rfl rfl rfl ?_
      refine TL.val rfl rfl rfl (gives_move rfl rfl) ?_
      refine TL.on rfl rfl rfl ?_
      refine TL.val rfl rfl rfl (gives_bin rfl rfl rfl (fun w => bin_neq_t (p2) w)) ?_
      refine TL.on rfl rfl rfl ?_
      refine TL.val rfl rfl rfl (gives_move rfl rfl) ?_
      refine TL.on rfl rfl rfl ?_
      refine TL.val rfl rfl rfl (gives_field (v := .pointer (some ⟨g9, 2, none⟩)) rfl rfl (fun w => ubrfld42_2 _ _ w)) ?_
      refine TL.on rfl rfl rfl ?_
      refine TL.val rfl rfl rfl (pm_load (k := 0) (i := 2) rfl rfl ubrag35 rfl rfl) ?_
      refine TL.on rfl rfl rfl ?_
      refine TL.val rfl rfl rfl (gives_move rfl rfl) ?_
      refine TL.on rfl rfl rfl ?_
      refine TL.val rfl rfl rfl (gives_bin rfl rfl rfl (fun w => bin_neq_t (p3) w)) ?_
      refine TL.on rfl rfl rfl ?_
      refine TL.val rfl rfl rfl (gives_pick rfl rfl rfl) ?_
      refine TL.val rfl rfl rfl (gives_pick rfl rfl rfl) ?_
      refine TL.end_ ?_
      refine TX.then_ ?_
      refine TC.condT rfl ?_
      refine TC.seq_ ?_
      refine TC.region ?_
      refine TL.val rfl rfl rfl (gives_assign rfl rfl) ?_
      refine TL.end_ ?_
      refine TX.then_ ?_
      refine TC.ret_ ?_
      refine TX.then_ret ?_
      refine TX.in_ret ?_
      refine TX.then_ret ?_
      refine TX.then_ret ?_
      refine TX.in_ret ?_
      refine TX.then_ret ?_
      exact ret_tmp Try.results18 rfl (fun w1 hw => ⟨by rw [hN, decide_eq_false (fun hh => by cases hh)], hw.bel⟩)
    · have hxb := xor_back ⟨hxo.1, hxo.2.1⟩ ⟨hxo.2.2.1, hxo.2.2.2⟩
      have hxor : bits .xor .u32 at0 (bits .xor .u32 x.a x.b) = oth x at0 := by rw [← p3, hxb.2]; unfold oth; rw [if_neg (fun hh => p1 hh)]
      have hnx : chkF l a = chkF (l.drop (i + 1)) (oth x at0) := by rw [hch, hdr, chkF, if_neg (by rintro (hh | ⟨_, hh⟩); (exact p1 hh); exact hh p3)]
      refine TC.region ?_
      refine TL.val rfl rfl rfl (gives_field (v := .pointer (some ⟨g9, 1, none⟩)) rfl rfl (fun w => ubrfld42_1 _ _ w)) ?_
      refine TL.val rfl rfl rfl (pm_load (k := 0) (i := 1) rfl rfl ubrag35 rfl rfl) ?_
      refine TL.val rfl rfl rfl (gives_field (v := .pointer (some ⟨g9, 2, none⟩)) rfl rfl (fun w => ubrfld42_2 _ _ w)) ?_
      refine TL.val rfl rfl rfl (pm_load (k := 0) (i := 2) rfl rfl ubrag35 rfl rfl) ?_
      refine TL.val rfl rfl rfl (gives_bin rfl rfl rfl (fun w => bin_eql_f (p1) w)) ?_
      refine TL.val rfl rfl rfl (gives_move rfl rfl) ?_
      refine TL.on rfl rfl rfl ?_
      refine TL.val rfl rfl rfl (gives_field (v := .pointer (some ⟨g9, 1, none⟩)) rfl rfl (fun w => ubrfld42_1 _ _ w)) ?_
      refine TL.on rfl rfl rfl ?_
      refine TL.val rfl rfl rfl (pm_load (k := 0) (i := 1) rfl rfl ubrag35 rfl rfl) ?_
      refine TL.on rfl rfl rfl ?_
      refine TL.val rfl rfl rfl (gives_move rfl rfl) ?_
      refine TL.on rfl rfl rfl ?_
      refine TL.val rfl rfl rfl (gives_bin rfl rfl rfl (fun w => bin_neq_t (p2) w)) ?_
      refine TL.on rfl rfl rfl ?_
      refine TL.val rfl rfl rfl (gives_move rfl rfl) ?_
      refine TL.on rfl rfl rfl ?_
      refine TL.val rfl rfl rfl (gives_field (v := .pointer (some ⟨g9, 2, none⟩)) rfl rfl (fun w => ubrfld42_2 _ _ w)) ?_
      refine TL.on rfl rfl rfl ?_
      refine TL.val rfl rfl rfl (pm_load (k := 0) (i := 2) rfl rfl ubrag35 rfl rfl) ?_
      refine TL.on rfl rfl rfl ?_
      refine TL.val rfl rfl rfl (gives_move rfl rfl) ?_
      refine TL.on rfl rfl rfl ?_
      refine TL.val rfl rfl rfl (gives_bin rfl rfl rfl (fun w => bin_neq_f (p3) w)) ?_
      refine TL.on rfl rfl rfl ?_
      refine TL.val rfl rfl rfl (gives_pick rfl rfl rfl) ?_
      refine TL.val rfl rfl rfl (gives_pick rfl rfl rfl) ?_
      refine TL.end_ ?_
      refine TX.then_ ?_
      refine TC.condF rfl ?_
      refine TC.skip_ ?_
      refine TX.then_ ?_
      refine TC.region ?_
      refine TL.val rfl rfl rfl (gives_move rfl rfl) ?_
      refine TL.val rfl rfl rfl (gives_field (v := .pointer (some ⟨g9, 1, none⟩)) rfl rfl (fun w => ubrfld42_1 _ _ w)) ?_
      refine TL.val rfl rfl rfl (pm_load (k := 0) (i := 1) rfl rfl ubrag35 rfl rfl) ?_
      refine TL.val rfl rfl rfl (gives_field (v := .pointer (some ⟨g9, 2, none⟩)) rfl rfl (fun w => ubrfld42_2 _ _ w)) ?_
      refine TL.val rfl rfl rfl (pm_load (k := 0) (i := 2) rfl rfl ubrag35 rfl rfl) ?_
      refine TL.val rfl rfl rfl (gives_bin rfl rfl rfl (fun w => bin_bits (.inr (.inr rfl)) w)) ?_
      refine TL.val rfl rfl rfl (gives_bin (v := .int .u32 (oth x at0)) rfl rfl rfl (fun w => by rw [bin_bits (.inr (.inr rfl)) w, hxor])) ?_
      refine TL.val rfl rfl rfl (gives_assign rfl rfl) ?_
      refine TL.end_ ?_
      refine TX.in_normal ?_
      refine TX.then_ ?_
      refine TC.region ?_
      refine TL.val rfl rfl rfl (gives_bin rfl rfl rfl (fun w => bin_add_ (r := ((i + 1 : Nat) : Int)) (by simp only [IntKind.wrap_i64]; omega) w)) ?_
      refine TL.val rfl rfl rfl (gives_move rfl rfl) ?_
      refine TL.end_ ?_
      exact TX.round (⟨(i + 1, oth x at0), hi2, hnx⟩) (by show l.length - (i + 1) < l.length - i; omega) ⟨rfl, rfl, rfl, rfl, rfl, trivial⟩ (fun w1 hw => hw.pick [] (by decide) rfl)
    · have hxb := xor_back ⟨hxo.1, hxo.2.1⟩ ⟨hxo.2.2.1, hxo.2.2.2⟩
      have hxor : bits .xor .u32 at0 (bits .xor .u32 x.a x.b) = oth x at0 := by rw [← p2, hxb.1]; unfold oth; rw [if_pos rfl]
      have hnx : chkF l a = chkF (l.drop (i + 1)) (oth x at0) := by rw [hch, hdr, chkF, if_neg (by rintro (hh | ⟨hh, _⟩); (exact p1 hh); exact hh p2)]
      refine TC.region ?_
      refine TL.val rfl rfl rfl (gives_field (v := .pointer (some ⟨g9, 1, none⟩)) rfl rfl (fun w => ubrfld42_1 _ _ w)) ?_
      refine TL.val rfl rfl rfl (pm_load (k := 0) (i := 1) rfl rfl ubrag35 rfl rfl) ?_
      refine TL.val rfl rfl rfl (gives_field (v := .pointer (some ⟨g9, 2, none⟩)) rfl rfl (fun w => ubrfld42_2 _ _ w)) ?_
      refine TL.val rfl rfl rfl (pm_load (k := 0) (i := 2) rfl rfl ubrag35 rfl rfl) ?_
      refine TL.val rfl rfl rfl (gives_bin rfl rfl rfl (fun w => bin_eql_f (p1) w)) ?_
      refine TL.val rfl rfl rfl (gives_move rfl rfl) ?_
      refine TL.on rfl rfl rfl ?_
      refine TL.val rfl rfl rfl (gives_field (v := .pointer (some ⟨g9, 1, none⟩)) rfl rfl (fun w => ubrfld42_1 _ _ w)) ?_
      refine TL.on rfl rfl rfl ?_
      refine TL.val rfl rfl rfl (pm_load (k := 0) (i := 1) rfl rfl ubrag35 rfl rfl) ?_
      refine TL.on rfl rfl rfl ?_
      refine TL.val rfl rfl rfl (gives_move rfl rfl) ?_
      refine TL.on rfl rfl rfl ?_
      refine TL.val rfl rfl rfl (gives_bin rfl rfl rfl (fun w => bin_neq_f (p2) w)) ?_
      refine TL.on rfl rfl rfl ?_
      refine TL.val rfl rfl rfl (gives_move rfl rfl) ?_
      refine TL.off rfl rfl rfl rfl rfl rfl ?_
      refine TL.off rfl rfl rfl rfl rfl rfl ?_
      refine TL.off rfl rfl rfl rfl rfl rfl ?_
      refine TL.off rfl rfl rfl rfl rfl rfl ?_
      refine TL.on rfl rfl rfl ?_
      refine TL.val rfl rfl rfl (gives_pick rfl rfl rfl) ?_
      refine TL.val rfl rfl rfl (gives_pick rfl rfl rfl) ?_
      refine TL.end_ ?_
      refine TX.then_ ?_
      refine TC.condF rfl ?_
      refine TC.skip_ ?_
      refine TX.then_ ?_
      refine TC.region ?_
      refine TL.val rfl rfl rfl (gives_move rfl rfl) ?_
      refine TL.val rfl rfl rfl (gives_field (v := .pointer (some ⟨g9, 1, none⟩)) rfl rfl (fun w => ubrfld42_1 _ _ w)) ?_
      refine TL.val rfl rfl rfl (pm_load (k := 0) (i := 1) rfl rfl ubrag35 rfl rfl) ?_
      refine TL.val rfl rfl rfl (gives_field (v := .pointer (some ⟨g9, 2, none⟩)) rfl rfl (fun w => ubrfld42_2 _ _ w)) ?_
      refine TL.val rfl rfl rfl (pm_load (k := 0) (i := 2) rfl rfl ubrag35 rfl rfl) ?_
      refine TL.val rfl rfl rfl (gives_bin rfl rfl rfl (fun w => bin_bits (.inr (.inr rfl)) w)) ?_
      refine TL.val rfl rfl rfl (gives_bin (v := .int .u32 (oth x at0)) rfl rfl rfl (fun w => by rw [bin_bits (.inr (.inr rfl)) w, hxor])) ?_
      refine TL.val rfl rfl rfl (gives_assign rfl rfl) ?_
      refine TL.end_ ?_
      refine TX.in_normal ?_
      refine TX.then_ ?_
      refine TC.region ?_
      refine TL.val rfl rfl rfl (gives_bin rfl rfl rfl (fun w => bin_add_ (r := ((i + 1 : Nat) : Int)) (by simp only [IntKind.wrap_i64]; omega) w)) ?_
      refine TL.val rfl rfl rfl (gives_move rfl rfl) ?_
      refine TL.end_ ?_
      exact TX.round (⟨(i + 1, oth x at0), hi2, hnx⟩) (by show l.length - (i + 1) < l.length - i; omega) ⟨rfl, rfl, rfl, rfl, rfl, trivial⟩ (fun w1 hw => hw.pick [] (by decide) rfl)
  · have q14 := of_decide_eq_false h14
    refine TL.end_ ?_
    refine TX.then_ ?_
    refine TC.seq_ ?_
    refine TC.condF rfl ?_
    refine TC.exit_ ?_
    refine TX.then_exit ?_
    refine TX.then_exit ?_
    refine TX.in_same ?_
    refine TX.then_ ?_
    refine TC.seq_ ?_
    refine TC.region ?_
    refine TL.val rfl rfl rfl (gives_move rfl rfl) ?_
    refine TL.val rfl rfl rfl (gives_move rfl rfl) ?_
    refine TL.vsplit rfl rfl rfl (gives_bin rfl rfl rfl (fun w => bin_eql w)) (fun h44 => ?_) (fun h44 => ?_)
    · have q44 := of_decide_eq_true h44
      refine TL.val rfl rfl rfl (gives_assign rfl rfl) ?_
      refine TL.end_ ?_
      refine TX.then_ ?_
      refine TC.ret_ ?_
      have hE : chkF l a = some at0 := by rw [hch, List.drop_eq_nil_of_le (by omega)]; rfl
      exact ret_tmp Try.results18 rfl (fun w1 hw => ⟨by rw [hE, decide_eq_true (by rw [q44])], hw.bel⟩)
    · have q44 := of_decide_eq_false h44
      refine TL.val rfl rfl rfl (gives_assign rfl rfl) ?_
      refine TL.end_ ?_
      refine TX.then_ ?_
      refine TC.ret_ ?_
      have hE : chkF l a = some at0 := by rw [hch, List.drop_eq_nil_of_le (by omega)]; rfl
      exact ret_tmp Try.results18 rfl (fun w1 hw => ⟨by rw [hE, decide_eq_false (fun hh => q44 (Option.some.inj hh))], hw.bel⟩)
end Go.Proofs.Ytleckflmckbheaa

namespace Go.Proofs.Ytleckflmckbheaa
open Go.RowKit
set_option linter.unusedVariables false
set_option linter.unusedSimpArgs false
set_option maxRecDepth 20000
/-- a list of which the ends are turned about already -/
structure Rvd (l : List Fc) (i j : Nat) (ys : List Fc) : Prop where
  len : ys.length = l.length
  sum : i + j + 1 = l.length
  out : ∀ p, p < i ∨ j < p → p < l.length → ys[p]? = l[l.length - 1 - p]?
  ins : ∀ p, i ≤ p → p ≤ j → ys[p]? = l[p]?
theorem Rvd.start (l : List Fc) (j : Nat) (h : 0 + j + 1 = l.length) : Rvd l 0 j l := ⟨rfl, h, fun p hp hl => by omega, fun _ _ _ => rfl⟩
theorem Rvd.step {l ys : List Fc} {i j : Nat} {x y : Fc} (h : Rvd l i j ys) (hij : i < j) (hj : j < ys.length) (hx : ys[i]? = some x) (hy : ys[j]? = some y) : Rvd l (i + 1) (j - 1) ((ys.set i y).set j x) := by
  have hs := h.sum
  have hlen := h.len
  have get : ∀ p, ((ys.set i y).set j x)[p]? = if j = p then some x else if i = p then some y else ys[p]? := fun p => by
    rw [List.getElem?_set, List.length_set, List.getElem?_set]
    by_cases e : j = p
    · rw [if_pos e, if_pos e, if_pos (by omega)]
    · rw [if_neg e, if_neg e]
      by_cases e2 : i = p
      · rw [if_pos e2, if_pos e2, if_pos (by omega)]
      · rw [if_neg e2, if_neg e2]
  refine ⟨by rw [List.length_set, List.length_set]; exact hlen, by omega, fun p hp hl => ?_, fun p h1 h2 => ?_⟩
  · rw [get]
    by_cases e : j = p
    · rw [if_pos e, ← hx, h.ins i (Nat.le_refl _) (by omega)]; congr 1; omega
    · rw [if_neg e]
      by_cases e2 : i = p
      · rw [if_pos e2, ← hy, h.ins j (by omega) (Nat.le_refl _)]; congr 1; omega
      · rw [if_neg e2]; exact h.out p (by omega) hl
  · rw [get, if_neg (by omega), if_neg (by omega)]; exact h.ins p (by omega) (by omega)
theorem Rvd.done {l ys : List Fc} {i j : Nat} (h : Rvd l i j ys) (hij : j ≤ i) : ys = l.reverse := by
  refine List.ext_getElem? fun p => ?_
  by_cases hp : p < l.length
  · rw [List.getElem?_reverse hp]
    by_cases e : i ≤ p ∧ p ≤ j
    · rw [h.ins p e.1 e.2]; congr 1; have := h.sum; omega
    · exact h.out p (by omega) hp
  · rw [List.getElem?_eq_none (by rw [h.len]; omega), List.getElem?_eq_none (by rw [List.length_reverse]; omega)]
theorem fcs_set (ys : List Fc) (i : Nat) (x : Fc) (h : i < ys.length) : (fcs ys).take (0 + i * 3) ++ x.cells ++ (fcs ys).drop (0 + i * 3 + x.cells.length) = fcs (ys.set i x) := by
  rw [Nat.zero_add, fc_cells_len, show i * 3 + 3 = (i + 1) * 3 by omega, fcs_take, fcs_drop, List.set_eq_take_append_cons_drop, if_pos h, fcs_app]
  rw [List.append_assoc]
  rfl
theorem fc_row {w0 : Base} {L : List Pc} {w : World} {k g n c i : Nat} {e : TypeId} {l : List Fc} {x : Fc} (h : Pm w0 L w) (hk : L[k]? = some (.row (.slice (some ⟨g, 0, none⟩) n c) e 3 n (fcs l))) (hx : l[i]? = some x) (q : Nat) (u : Value) (hu : x.cells[q]? = some u) : w.cell? ⟨g, 0 + i * 3 + q, none⟩ = some u := by
  have hq : q < 3 := by have := (List.getElem?_eq_some_iff.1 hu).1; simpa [Fc.cells] using this
  rw [Nat.zero_add]
  exact pm_row h hk (by rw [fcs_ix hx q hq]; exact hu)
theorem urvsz42 (w : World) : (sizeOf 42).run Try.prog w = .ok 3 w := rfl
theorem urvag42 (w : World) : (isAgg 42).run Try.prog w = .ok true w := rfl
set_option maxHeartbeats 1000000 in
theorem frev_nil (w : World) : Calls Try.prog 39 #[.slice none 0 0] w fun e w' => e = .returned (.tuple #[]) ∧ Below w.heap.size w w' := by
  refine begin_ (vs := [.slice none 0 0]) Try.func39 rfl rfl rfl ?_ (Pm.start w)
  refine TC.seq_ ?_
  refine TC.region ?_
  refine TL.val rfl rfl rfl (gives_move rfl rfl) ?_
  refine TL.val rfl rfl rfl (gives_len rfl Try.underlying26 rfl) ?_
  refine TL.val rfl rfl rfl (gives_bin rfl rfl rfl (fun w => bin_sub_ (r := -1) (by decide) w)) ?_
  refine TL.val rfl rfl rfl (gives_assign rfl rfl) ?_
  refine TL.val rfl rfl rfl (gives_assign rfl rfl) ?_
  refine TL.end_ ?_
  refine TX.then_ ?_
  refine TC.block ?_
  refine TC.loop_ (α := Unit) (fun y => [(0, .slice none 0 0), (2, .int .i64 0), (3, .int .i64 (-1))]) (fun y => Pm w []) (fun y => 0) (()) ⟨rfl, rfl, rfl, trivial⟩ (fun w1 hw => hw) ?_
  rintro ⟨⟩
  refine TC.seq_ ?_
  refine TC.seq_ ?_
  refine TC.region ?_
  refine TL.val rfl rfl rfl (gives_move rfl rfl) ?_
  refine TL.val rfl rfl rfl (gives_move rfl rfl) ?_
  refine TL.val rfl rfl rfl (gives_bin rfl rfl rfl (fun w => bin_lss_f (by decide) w)) ?_
  refine TL.end_ ?_
  refine TX.then_ ?_
  refine TC.condF rfl ?_
  refine TC.exit_ ?_
  refine TX.then_exit ?_
  refine TX.then_exit ?_
  refine TX.in_same ?_
  exact end_none Try.results39 (fun w1 hw => ⟨rfl, hw.bel⟩)
set_option maxHeartbeats 1000000 in
theorem frev_any (g n c : Nat) (l : List Fc) (w : World) (h : RwG 42 3 w g n c (fcs l)) (hn : l.length = n) (h0 : 0 < n) (hl1 : n ≤ 100000) : Calls Try.prog 39 #[.slice (some ⟨g, 0, none⟩) n c] w fun e w' => e = .returned (.tuple #[]) ∧ RwG 42 3 w' g n c (fcs l.reverse) ∧ w.grownBy w' (some g) := by
  refine begin_ (vs := [.slice (some ⟨g, 0, none⟩) n c]) (I := Pm ⟨wbut w g, g⟩ (.row (.slice (some ⟨g, 0, none⟩) n c) 42 3 n (fcs l) :: oths g w)) Try.func39 rfl rfl rfl ?_ (Pm.rowStartG h)
  refine TC.seq_ ?_
  refine TC.region ?_
  refine TL.val rfl rfl rfl (gives_move rfl rfl) ?_
  refine TL.val rfl rfl rfl (gives_len rfl Try.underlying26 rfl) ?_
  refine TL.val rfl rfl rfl (gives_bin rfl rfl rfl (fun w => bin_sub_ (r := ((n - 1 : Nat) : Int)) (by simp only [IntKind.wrap_i64]; omega) w)) ?_
  refine TL.val rfl rfl rfl (gives_assign rfl rfl) ?_
  refine TL.val rfl rfl rfl (gives_assign rfl rfl) ?_
  refine TL.end_ ?_
  refine TX.then_ ?_
  refine TC.block ?_
  refine TC.loop_ (α := {y : Nat × Nat × List Fc // y.1 + y.2.1 + 1 = n ∧ Rvd l y.1 y.2.1 y.2.2}) (fun y => [(0, .slice (some ⟨g, 0, none⟩) n c), (2, .int .i64 ((y.1.1 : Nat) : Int)), (3, .int .i64 ((y.1.2.1 : Nat) : Int))]) (fun y => Pm ⟨wbut w g, g⟩ ([.row (.slice (some ⟨g, 0, none⟩) n c) 42 3 n (fcs y.1.2.2)] ++ oths g w)) (fun y => y.1.2.1) (⟨(0, n - 1, l), by dsimp only; omega, Rvd.start l _ (by dsimp only; omega)⟩) ⟨rfl, rfl, rfl, trivial⟩ (fun w1 hw => hw) ?_
  rintro ⟨⟨i, j, ys⟩, hij, hI⟩
  dsimp only at hij hI ⊢
  have hly := hI.len
  refine TC.seq_ ?_
  refine TC.seq_ ?_
  refine TC.region ?_
  refine TL.val rfl rfl rfl (gives_move rfl rfl) ?_
  refine TL.val rfl rfl rfl (gives_move rfl rfl) ?_
  refine TL.vsplit rfl rfl rfl (gives_bin rfl rfl rfl (fun w => bin_lss w)) (fun h9 => ?_) (fun h9 => ?_)
  · have q9 := of_decide_eq_true h9
    obtain ⟨x, hx⟩ : ∃ x, ys[i]? = some x := ⟨_, List.getElem?_eq_getElem (by omega)⟩
    obtain ⟨y, hy⟩ : ∃ y, ys[j]? = some y := ⟨_, List.getElem?_eq_getElem (by omega)⟩
    refine TL.end_ ?_
    refine TX.then_ ?_
    refine TC.condT rfl ?_
    refine TC.skip_ ?_
    refine TX.then_ ?_
    refine TC.seq_ ?_
    refine TC.block ?_
    refine TC.held (ls := #[false, false, false, false, false, false, false, false, false, false, false, false, false, false, false, false]) (fun _ => True) (by kernel_rfl) rfl rfl (fun w hw => hw.drawn _) ?_
    refine TH.take (listed' := #[true, false, false, false, false, false, false, false, false, false, false, false, false, false, false, false]) 0 rfl (by kernel_rfl) (by kernel_rfl) (by kernel_rfl) rfl rfl rfl rfl (gives_move rfl rfl) (fun _ _ => trivial) ?_
    refine TH.take (listed' := #[true, true, false, false, false, false, false, false, false, false, false, false, false, false, false, false]) 1 rfl (by kernel_rfl) (by kernel_rfl) (by kernel_rfl) rfl rfl rfl rfl (gives_move rfl rfl) (fun _ _ => trivial) ?_
    refine TH.take (listed' := #[true, true, true, false, false, false, false, false, false, false, false, false, false, false, false, false]) 2 rfl (by kernel_rfl) (by kernel_rfl) (by kernel_rfl) rfl rfl rfl rfl (gives_move rfl rfl) (fun _ _ => trivial) ?_
    refine TH.take (listed' := #[true, true, true, true, false, false, false, false, false, false, false, false, false, false, false, false]) 3 rfl (by kernel_rfl) (by kernel_rfl) (by kernel_rfl) rfl rfl rfl rfl (gives_move rfl rfl) (fun _ _ => trivial) ?_
    refine TH.take (listed' := #[true, true, true, true, true, false, false, false, false, false, false, false, false, false, false, false]) 4 rfl (by kernel_rfl) (by kernel_rfl) (by kernel_rfl) rfl rfl rfl rfl (gives_move rfl rfl) (fun _ _ => trivial) ?_
    refine TH.take (listed' := #[true, true, true, true, true, true, false, false, false, false, false, false, false, false, false, false]) 5 rfl (by kernel_rfl) (by kernel_rfl) (by kernel_rfl) rfl rfl rfl rfl (gives_move rfl rfl) (fun _ _ => trivial) ?_
    refine TH.take (listed' := #[true, true, true, true, true, true, true, false, false, false, false, false, false, false, false, false]) 6 rfl (by kernel_rfl) (by kernel_rfl) (by kernel_rfl) rfl rfl rfl rfl (gives_at (v := .pointer (some ⟨g, 0 + j * 3, none⟩)) rfl rfl rfl (fun w => at_el Try.underlying26 urvsz42 rfl _ _ j (by omega) rfl w)) (fun _ _ => trivial) ?_
    refine TH.take (listed' := #[true, true, true, true, true, true, true, false, true, false, false, false, false, false, false, false]) 8 rfl (by kernel_rfl) (by kernel_rfl) (by kernel_rfl) rfl rfl rfl rfl (gives_move rfl rfl) (fun _ _ => trivial) ?_
    refine TH.take (listed' := #[true, true, true, true, true, true, true, false, true, true, false, false, false, false, false, false]) 9 rfl (by kernel_rfl) (by kernel_rfl) (by kernel_rfl) rfl rfl rfl rfl (gives_move rfl rfl) (fun _ _ => trivial) ?_
    refine TH.take (listed' := #[true, true, true, true, true, true, true, false, true, true, true, false, false, false, false, false]) 10 rfl (by kernel_rfl) (by kernel_rfl) (by kernel_rfl) rfl rfl rfl rfl (gives_at (v := .pointer (some ⟨g, 0 + i * 3, none⟩)) rfl rfl rfl (fun w => at_el Try.underlying26 urvsz42 rfl _ _ i (by omega) rfl w)) (fun _ _ => trivial) ?_
    refine TH.two' (listed1 := #[true, true, true, true, true, true, true, true, true, true, true, false, false, false, false, false]) (listed2 := #[true, true, true, true, true, true, true, false, true, true, true, true, false, false, false, false]) 7 11 rfl rfl (by kernel_rfl) rfl rfl ?_ ?_
    · refine TL.val rfl rfl rfl (gives_loadR (off := 0 + j * 3) rfl rfl urvag42 urvsz42 (fc_cells_len y) (fun w1 hw q u hu => fc_row hw (k := 0) rfl hy q u hu)) ?_
      refine TL.end_ ?_
      refine TX.held (fun _ _ => trivial) ?_
      refine TH.only' (listed' := #[true, true, true, true, true, true, true, true, true, true, true, true, false, false, false, false]) 11 rfl (by kernel_rfl) rfl ?_
      refine TL.val rfl rfl rfl (gives_loadR (off := 0 + i * 3) rfl rfl urvag42 urvsz42 (fc_cells_len x) (fun w1 hw q u hu => fc_row hw (k := 0) rfl hx q u hu)) ?_
      refine TL.end_ ?_
      refine TX.held (fun _ _ => trivial) ?_
      refine TH.take (listed' := #[true, true, true, true, true, true, true, true, true, true, true, true, true, false, false, false]) 12 rfl (by kernel_rfl) (by kernel_rfl) (by kernel_rfl) rfl rfl rfl rfl (gives_at (v := .pointer (some ⟨g, 0 + i * 3, none⟩)) rfl rfl rfl (fun w => at_el Try.underlying26 urvsz42 rfl _ _ i (by omega) rfl w)) (fun _ _ => trivial) ?_
      refine TH.only' (listed' := #[true, true, true, true, true, true, true, true, true, true, true, true, true, true, false, false]) 13 rfl (by kernel_rfl) rfl ?_
      refine TL.rowset (k := 0) (off := 0 + i * 3) (vs := y.cells) rfl rfl rfl rfl rfl rfl rfl urvsz42 (fc_one _) (by rw [fcs_len, fc_cells_len]; skip; omega) (xs' := fcs (ys.set i y)) (fcs_set ys i y (by skip; omega)) ?_
      try dsimp only [List.set_cons_zero]
      refine TL.end_ ?_
      refine TX.held (fun _ _ => trivial) ?_
      refine TH.take (listed' := #[true, true, true, true, true, true, true, true, true, true, true, true, true, true, true, false]) 14 rfl (by kernel_rfl) (by kernel_rfl) (by kernel_rfl) rfl rfl rfl rfl (gives_at (v := .pointer (some ⟨g, 0 + j * 3, none⟩)) rfl rfl rfl (fun w => at_el Try.underlying26 urvsz42 rfl _ _ j (by omega) rfl w)) (fun _ _ => trivial) ?_
      refine TH.only' (listed' := #[true, true, true, true, true, true, true, true, true, true, true, true, true, true, true, true]) 15 rfl (by kernel_rfl) rfl ?_
      refine TL.rowset (k := 0) (off := 0 + j * 3) (vs := x.cells) rfl rfl rfl rfl rfl rfl rfl urvsz42 (fc_one _) (by rw [fcs_len, fc_cells_len]; (try rw [List.length_set]); omega) (xs' := fcs ((ys.set i y).set j x)) (fcs_set (ys.set i y) j x (by (try rw [List.length_set]); omega)) ?_
      try dsimp only [List.set_cons_zero]
      refine TL.end_ ?_
      refine TX.held (fun _ _ => trivial) ?_
      refine TH.done (by kernel_rfl) ?_
      refine TX.in_normal ?_
      refine TX.then_ ?_
      refine TC.region ?_
      refine TL.val rfl rfl rfl (gives_move rfl rfl) ?_
      refine TL.val rfl rfl rfl (gives_bin rfl rfl rfl (fun w => bin_add_ (r := ((i + 1 : Nat) : Int)) (by simp only [IntKind.wrap_i64]; omega) w)) ?_
      refine TL.val rfl rfl rfl (gives_move rfl rfl) ?_
      refine TL.val rfl rfl rfl (gives_bin rfl rfl rfl (fun w => bin_sub_ (r := ((j - 1 : Nat) : Int)) (by simp only [IntKind.wrap_i64]; omega) w)) ?_
      refine TL.val rfl rfl rfl (gives_assign rfl rfl) ?_
      refine TL.val rfl rfl rfl (gives_assign rfl rfl) ?_
      refine TL.end_ ?_
      exact TX.round (⟨(i + 1, j - 1, (ys.set i y).set j x), by dsimp only; omega, hI.step (by omega) (by omega) hx hy⟩) (by show j - 1 < j; omega) ⟨rfl, rfl, rfl, trivial⟩ (fun w1 hw => hw)
    · refine TL.val rfl rfl rfl (gives_loadR (off := 0 + i * 3) rfl rfl urvag42 urvsz42 (fc_cells_len x) (fun w1 hw q u hu => fc_row hw (k := 0) rfl hx q u hu)) ?_
      refine TL.end_ ?_
      refine TX.held (fun _ _ => trivial) ?_
      refine TH.only' (listed' := #[true, true, true, true, true, true, true, true, true, true, true, true, false, false, false, false]) 7 rfl (by kernel_rfl) rfl ?_
      refine TL.val rfl rfl rfl (gives_loadR (off := 0 + j * 3) rfl rfl urvag42 urvsz42 (fc_cells_len y) (fun w1 hw q u hu => fc_row hw (k := 0) rfl hy q u hu)) ?_
      refine TL.end_ ?_
      refine TX.held (fun _ _ => trivial) ?_
      refine TH.take (listed' := #[true, true, true, true, true, true, true, true, true, true, true, true, true, false, false, false]) 12 rfl (by kernel_rfl) (by kernel_rfl) (by kernel_rfl) rfl rfl rfl rfl (gives_at (v := .pointer (some ⟨g, 0 + i * 3, none⟩)) rfl rfl rfl (fun w => at_el Try.underlying26 urvsz42 rfl _ _ i (by omega) rfl w)) (fun _ _ => trivial) ?_
      refine TH.only' (listed' := #[true, true, true, true, true, true, true, true, true, true, true, true, true, true, false, false]) 13 rfl (by kernel_rfl) rfl ?_
      refine TL.rowset (k := 0) (off := 0 + i * 3) (vs := y.cells) rfl rfl rfl rfl rfl rfl rfl urvsz42 (fc_one _) (by rw [fcs_len, fc_cells_len]; skip; omega) (xs' := fcs (ys.set i y)) (fcs_set ys i y (by skip; omega)) ?_
      try dsimp only [List.set_cons_zero]
      refine TL.end_ ?_
      refine TX.held (fun _ _ => trivial) ?_
      refine TH.take (listed' := #[true, true, true, true, true, true, true, true, true, true, true, true, true, true, true, false]) 14 rfl (by kernel_rfl) (by kernel_rfl) (by kernel_rfl) rfl rfl rfl rfl (gives_at (v := .pointer (some ⟨g, 0 + j * 3, none⟩)) rfl rfl rfl (fun w => at_el Try.underlying26 urvsz42 rfl _ _ j (by omega) rfl w)) (fun _ _ => trivial) ?_
      refine TH.only' (listed' := #[true, true, true, true, true, true, true, true, true, true, true, true, true, true, true, true]) 15 rfl (by kernel_rfl) rfl ?_
      refine TL.rowset (k := 0) (off := 0 + j * 3) (vs := x.cells) rfl rfl rfl rfl rfl rfl rfl urvsz42 (fc_one _) (by rw [fcs_len, fc_cells_len]; (try rw [List.length_set]); omega) (xs' := fcs ((ys.set i y).set j x)) (fcs_set (ys.set i y) j x (by (try rw [List.length_set]); omega)) ?_
      try dsimp only [List.set_cons_zero]
      refine TL.end_ ?_
      refine TX.held (fun _ _ => trivial) ?_
      refine TH.done (by kernel_rfl) ?_
      refine TX.in_normal ?_
      refine TX.then_ ?_
      refine TC.region ?_
      refine TL.val rfl rfl rfl (gives_move rfl rfl) ?_
      refine TL.val rfl rfl rfl (gives_bin rfl rfl rfl (fun w => bin_add_ (r := ((i + 1 : Nat) : Int)) (by simp only [IntKind.wrap_i64]; omega) w)) ?_
      refine TL.val rfl rfl rfl (gives_move rfl rfl) ?_
      refine TL.val rfl rfl rfl (gives_bin rfl rfl rfl (fun w => bin_sub_ (r := ((j - 1 : Nat) : Int)) (by simp only [IntKind.wrap_i64]; omega) w)) ?_
      refine TL.val rfl rfl rfl (gives_assign rfl rfl) ?_
      refine TL.val rfl rfl rfl (gives_assign rfl rfl) ?_
      refine TL.end_ ?_
      exact TX.round (⟨(i + 1, j - 1, (ys.set i y).set j x), by dsimp only; omega, hI.step (by omega) (by omega) hx hy⟩) (by show j - 1 < j; omega) ⟨rfl, rfl, rfl, trivial⟩ (fun w1 hw => hw)
  · have q9 := of_decide_eq_false h9
    have hE : ys = l.reverse := hI.done (by omega)
    refine TL.end_ ?_
    refine TX.then_ ?_
    refine TC.condF rfl ?_
    refine TC.exit_ ?_
    refine TX.then_exit ?_
    refine TX.then_exit ?_
    refine TX.in_same ?_
    exact end_none Try.results39 (fun w1 hw => ⟨rfl, by rw [← hE]; exact pm_rowAtG hw (k := 0) rfl, hw.mapEnd (fun q hq => by simp [hq])⟩)
end Go.Proofs.Ytleckflmckbheaa

namespace Go.Proofs.Ytleckflmckbheaa
open Go.RowKit
set_option linter.unusedVariables false
set_option linter.unusedSimpArgs false
/-- a type of keys, and how keys are written -/
structure MKey (P : Program) (k : TypeId) {κ : Type} (enc : κ → Value) (Ok : κ → Prop) : Prop where
  keyed : Maps.Keyed P k
  lit : ∀ a, Ok a → ∃ l, keyOf P k (enc a) = some l
  inj : ∀ a b, enc a = enc b → a = b
/-- object o is a map that maps as f does -/
def MapG {κ : Type} (enc : κ → Value) (Ok : κ → Prop) (o : Obj) (f : κ → Option Value) : Prop :=
  ∃ (es : Array MapEntry) (clock : Nat), o = .map es clock ∧ (∀ e ∈ es.toList, ∃ a, Ok a ∧ e.key = enc a) ∧ (es.toList.map (·.key)).Nodup ∧ ∀ a v, f a = some v ↔ ∃ e ∈ es.toList, e.key = enc a ∧ e.val = v
section
variable {P : Program} {t k e : TypeId} {κ : Type} {enc : κ → Value} {Ok : κ → Prop} {o : Obj} {g : Nat} {f : κ → Option Value} {w : World}
theorem mapG_new (enc : κ → Value) (Ok : κ → Prop) : MapG enc Ok (.map #[] 0) (fun _ => none) :=
  ⟨#[], 0, rfl, fun e h => absurd h List.not_mem_nil, List.nodup_nil, fun a v => ⟨fun h => by (cases h), fun ⟨e, h, _⟩ => absurd h List.not_mem_nil⟩⟩
theorem MapG.find {es : Array MapEntry} {clock : Nat} (h : MapG enc Ok (.map es clock) f) (K : MKey P k enc Ok) {a : κ} (ha : Ok a) (w : World) :
    ((Instr.findKey k (enc a) es.toList).run P w = .ok none w ∧ f a = none) ∨ ∃ j e, (Instr.findKey k (enc a) es.toList).run P w = .ok (some (j, e.val)) w ∧ es[j]? = some e ∧ e.key = enc a ∧ f a = some e.val := by
  obtain ⟨es', clock', he, hk, hnd, hf⟩ := h
  cases he
  obtain ⟨l, hl⟩ := K.lit a ha
  rcases K.keyed.find w hl es.toList (fun e he => by obtain ⟨b, hb, e1⟩ := hk e he; rw [e1]; exact K.lit b hb) with ⟨h1, h2⟩ | ⟨j, e, h1, h2, h3⟩
  · refine .inl ⟨h1, ?_⟩
    cases hfa : f a with
    | none => rfl
    | some v =>
      obtain ⟨e, he, e1, _⟩ := (hf a v).1 hfa
      exact absurd e1 (h2 e he)
  · refine .inr ⟨j, e, h1, by simpa using h2, h3, (hf a e.val).2 ⟨e, List.mem_of_getElem? h2, h3, rfl⟩⟩
theorem MapG.look (h : MapG enc Ok o f) (K : MKey P k enc Ok) (ht : P.underlying t = some (.map k e)) {z : Value} (hz : ∀ w : World, (zeroValue e).run P w = .ok z w) (hb : w.heap[g]? = some o) {a : κ} (ha : Ok a) (co : Bool) :
    (Instr.lookup t (.map (some g)) (enc a) co).run P w = .ok (if co then .tuple #[(f a).getD z, .bool (f a).isSome] else (f a).getD z) w := by
  obtain ⟨es, clock, he, _⟩ := id h
  subst he
  obtain ⟨l, hl⟩ := K.lit a ha
  have hck := K.keyed.check w es.isEmpty hl
  have hgo : (getObj g).run P w = .ok (.map es clock) w := by simp [getObj, Sem.run, hb]
  unfold Instr.lookup
  rcases h.find K ha w with ⟨h1, h2⟩ | ⟨j, e', h1, h2, h3, h4⟩
  · simp [run_underlying ht, hgo, hck, h1, hz, h2]
  · simp [run_underlying ht, hgo, hck, h1, h4]
theorem MapG.put (h : MapG enc Ok o f) (K : MKey P k enc Ok) (ht : P.underlying t = some (.map k e)) (hb : w.heap[g]? = some o) {a : κ} (ha : Ok a) (v : Value) [DecidableEq κ] :
    ∃ o' w', (Instr.mapUpdate t (.map (some g)) (enc a) v).run P w = .ok () w' ∧ w'.heap[g]? = some o' ∧ MapG enc Ok o' (fun x => if x = a then some v else f x) ∧ w.grownBy w' (some g) := by
  obtain ⟨es, clock, he, hk, hnd, hf⟩ := id h
  subst he
  obtain ⟨l, hl⟩ := K.lit a ha
  have hck := K.keyed.check w false hl
  have hst := K.keyed.stays w hl
  have hgo : (getObj g).run P w = .ok (.map es clock) w := by simp [getObj, Sem.run, hb]
  have hlt : g < w.heap.size := (Array.getElem?_eq_some_iff.1 hb).1
  have hso : ∀ ob : Obj, (setObj g ob).run P w = .ok () (w.putObj g ob) := fun ob => by simp [setObj, Sem.run, hb, World.putObj]
  rcases h.find K ha w with ⟨h1, h2⟩ | ⟨j, e', h1, h2, h3, h4⟩
  · refine ⟨.map (es.push ⟨enc a, v, clock⟩) (clock + 1), w.putObj g (.map (es.push ⟨enc a, v, clock⟩) (clock + 1)), ?_, ?_, ⟨_, _, rfl, ?_, ?_, ?_⟩, grownBy_putObj' w g _⟩
    · unfold Instr.mapUpdate
      simp [run_underlying ht, hgo, hck, h1, hso]
    · simp [World.putObj, hlt]
    · intro e1 he1
      simp only [Array.toList_push, List.mem_append, List.mem_singleton] at he1
      rcases he1 with he1 | rfl
      · exact hk e1 he1
      · exact ⟨a, ha, rfl⟩
    · simp only [Array.toList_push, List.map_append, List.map_cons, List.map_nil]
      refine List.nodup_append.2 ⟨hnd, List.pairwise_singleton _ _, fun x hx y hy e1 => ?_⟩
      rw [List.mem_singleton] at hy
      obtain ⟨e2, he2, e3⟩ := List.mem_map.1 hx
      have := (hf a e2.val).2 ⟨e2, he2, by rw [e3, e1, hy], rfl⟩
      rw [h2] at this
      cases this
    · intro x u
      simp only [Array.toList_push, List.mem_append, List.mem_singleton]
      show (if x = a then some v else f x) = some u ↔ _
      by_cases e1 : x = a
      · subst e1
        rw [if_pos rfl]
        constructor
        · intro hu
          cases hu
          exact ⟨_, .inr rfl, rfl, rfl⟩
        · rintro ⟨e2, he2 | rfl, e3, e4⟩
          · have := (hf x e2.val).2 ⟨e2, he2, e3, rfl⟩
            rw [h2] at this
            cases this
          · rw [← e4]
      · rw [if_neg e1, hf]
        constructor
        · rintro ⟨e2, he2, e3⟩
          exact ⟨e2, .inl he2, e3⟩
        · rintro ⟨e2, he2 | rfl, e3⟩
          · exact ⟨e2, he2, e3⟩
          · exact absurd (K.inj _ _ e3.1).symm e1
  · have hjl : j < es.size := (Array.getElem?_eq_some_iff.1 h2).1
    refine ⟨.map (es.modify j fun e => { key := enc a, val := v, born := e.born }) clock, w.putObj g (.map (es.modify j fun e => { key := enc a, val := v, born := e.born }) clock), ?_, ?_, ⟨_, _, rfl, ?_, ?_, ?_⟩, grownBy_putObj' w g _⟩
    · unfold Instr.mapUpdate
      simp [run_underlying ht, hgo, hck, h1, h2, h3, hst, hso]
    · simp [World.putObj, hlt]
    all_goals
      have hm : (es.modify j fun e => { key := enc a, val := v, born := e.born }).toList = es.toList.set j ⟨enc a, v, e'.born⟩ := by
        refine List.ext_getElem? fun i => ?_
        rw [Array.getElem?_toList, Array.getElem?_modify, List.getElem?_set]
        by_cases e1 : j = i
        · subst e1
          rw [if_pos rfl, if_pos rfl, h2, if_pos (by simpa using hjl)]
          rfl
        · rw [if_neg e1, if_neg e1, Array.getElem?_toList]
      rw [hm]
    · intro e1 he1
      rcases List.mem_or_eq_of_mem_set he1 with h5 | rfl
      · exact hk e1 h5
      · exact ⟨a, ha, rfl⟩
    · have : (es.toList.set j ⟨enc a, v, e'.born⟩).map (·.key) = es.toList.map (·.key) := by
        rw [List.map_set]
        refine List.ext_getElem? fun i => ?_
        rw [List.getElem?_set]
        by_cases e1 : j = i
        · subst e1
          rw [if_pos rfl, if_pos (by simpa using hjl), List.getElem?_map, Array.getElem?_toList, h2]
          simp [h3]
        · rw [if_neg e1]
      rw [this]
      exact hnd
    · have hdist : ∀ i e1, es.toList[i]? = some e1 → e1.key = enc a → i = j := fun i e1 hi hk1 => by
        have hi' : i < (es.toList.map (·.key)).length := by rw [List.length_map]; exact (List.getElem?_eq_some_iff.1 hi).1
        refine (List.getElem?_inj hi' hnd).1 ?_
        rw [List.getElem?_map, List.getElem?_map, hi, Array.getElem?_toList, h2]
        simp [hk1, h3]
      intro x u
      show (if x = a then some v else f x) = some u ↔ _
      by_cases e1 : x = a
      · subst e1
        rw [if_pos rfl]
        constructor
        · intro hu
          cases hu
          exact ⟨⟨enc x, v, e'.born⟩, List.mem_set (by rw [Array.length_toList]; exact hjl) _, rfl, rfl⟩
        · rintro ⟨e2, he2, e3, e4⟩
          obtain ⟨i, hi⟩ := List.getElem?_of_mem he2
          rw [List.getElem?_set] at hi
          by_cases e5 : j = i
          · rw [if_pos e5, if_pos (by rw [Array.length_toList]; exact hjl)] at hi
            cases hi
            rw [← e4]
          · rw [if_neg e5] at hi
            exact absurd (hdist i e2 hi e3).symm e5
      · rw [if_neg e1, hf]
        constructor
        · rintro ⟨e2, he2, e3, e4⟩
          obtain ⟨i, hi⟩ := List.getElem?_of_mem he2
          have hij : j ≠ i := fun hh => by
            subst hh
            rw [Array.getElem?_toList, h2] at hi
            cases hi
            rw [h3] at e3
            exact e1 (K.inj _ _ e3).symm
          exact ⟨e2, List.mem_of_getElem? (i := i) (by rw [List.getElem?_set, if_neg hij]; exact hi), e3, e4⟩
        · rintro ⟨e2, he2, e3, e4⟩
          rcases List.mem_or_eq_of_mem_set he2 with h5 | rfl
          · exact ⟨e2, h5, e3, e4⟩
          · exact absurd (K.inj _ _ e3).symm e1
end
section
variable {P : Program} {N : Fr} {Q : Exit → Act → World → Prop} {E : Env} {w0 : Base} {L : List Pc} {ops : Array Oper} {l : List Oper} {o : Oper} {κ : Type} {enc : κ → Value} {Ok : κ → Prop} {t k e : TypeId}
theorem gives_lookG {x y : Operand} {g i : Nat} {ob : Obj} {f : κ → Option Value} {a : κ} {z : Value} (ho : o.op = .lookup t x y false) (hx : ev E x = some (.map (some g))) (hy : ev E y = some (enc a)) (K : MKey P k enc Ok) (ht : P.underlying t = some (.map k e)) (hz : ∀ w : World, (zeroValue e).run P w = .ok z w) (hk : L[i]? = some (.oth g ob)) (hm : MapG enc Ok ob f) (ha : Ok a) {v : Value} (hv : (f a).getD z = v) :
    Gives P N o E (Pm w0 L) v := fun ac w hac hw => by
  unfold execOp; rw [ho]
  subst hv
  simp [hac.eval hx, hac.eval hy, hm.look K ht hz (hw.at_ hk).1 ha false]
theorem gives_lookGOk {x y : Operand} {g i : Nat} {ob : Obj} {f : κ → Option Value} {a : κ} {z : Value} (ho : o.op = .lookup t x y true) (hx : ev E x = some (.map (some g))) (hy : ev E y = some (enc a)) (K : MKey P k enc Ok) (ht : P.underlying t = some (.map k e)) (hz : ∀ w : World, (zeroValue e).run P w = .ok z w) (hk : L[i]? = some (.oth g ob)) (hm : MapG enc Ok ob f) (ha : Ok a) {v : Value} {b : Bool} (hv : (f a).getD z = v) (hb : (f a).isSome = b) :
    Gives P N o E (Pm w0 L) (.tuple #[v, .bool b]) := fun ac w hac hw => by
  unfold execOp; rw [ho]
  subst hv hb
  simp [hac.eval hx, hac.eval hy, hm.look K ht hz (hw.at_ hk).1 ha true]
theorem TL.mapsetG {x y z : Operand} {g i : Nat} {ob : Obj} {f : κ → Option Value} {a : κ} {v : Value} [DecidableEq κ] (hg : o.guard = none) (hd : o.dst = none) (ho : o.op = .mapUpdate t x y z) (hx : ev E x = some (.map (some g))) (hy : ev E y = some (enc a)) (hz : ev E z = some v)
    (K : MKey P k enc Ok) (ht : P.underlying t = some (.map k e)) (hk : L[i]? = some (.oth g ob)) (hnew : Mine w0 g) (hm : MapG enc Ok ob f) (ha : Ok a)
    (h : ∀ ob', MapG enc Ok ob' (fun x => if x = a then some v else f x) → TL P N ops Q l E (Pm w0 (L.set i (.oth g ob')))) : TL P N ops Q (o :: l) E (Pm w0 L) := fun ac w hac hw =>
  wpList_plain hg fun K' hK => by
    obtain ⟨ob', w', hrun, hob, hm', hgr⟩ := hm.put K ht (hw.at_ hk).1 ha v
    have hex : (execOp ac.eval o).run P w = .ok .skip w' := by
      unfold execOp; rw [ho]
      simp only [hac.eval hx, hac.eval hy, hac.eval hz, Sem.run_bind, hrun, Result.andThen_ok, Sem.run_pure]
    unfold Oper.wp
    rw [hex]
    show K' (ac.put o.dst undef) _
    rw [hd]
    exact hK _ _ (h ob' hm' _ _ (hac.put0 _) (hw.turnO hk hnew hgr hob))
end
theorem mkey_int {P : Program} {k : TypeId} {q : IntKind} (hk : P.underlying k = some (.int q)) : MKey P k (Value.int q) (fun a => (Lit.int q a).wf = true) :=
  ⟨Maps.int_keyed hk, fun a ha => ⟨_, Maps.keyOf_int_mk hk ha⟩, fun a b h => by cases h; rfl⟩
end Go.Proofs.Ytleckflmckbheaa

namespace Go.Proofs.Ytleckflmckbheaa
open Go.RowKit
set_option linter.unusedVariables false
set_option linter.unusedSimpArgs false
set_option maxRecDepth 20000
/-- the number of a way's last fact -/
def lastId (π : List Fc) : Int := match π.getLast? with
  | none => -1
  | some f => f.id
theorem lastId_snoc (π : List Fc) (x : Fc) : lastId (π ++ [x]) = x.id := by unfold lastId; rw [List.getLast?_append]; rfl
theorem Trl.snoc {F : List Fc} {f : Fc} (hf : f ∈ F) : ∀ {π : List Fc} {z l y : Int}, Trl F z l π y → (π = [] → f.id ≠ l) → (π ≠ [] → f.id ≠ lastId π) → (f.a = y ∨ f.b = y) → Trl F z l (π ++ [f]) (oth f y)
  | [], z, l, y, h, h1, _, h3 => by cases h; exact ⟨hf, h1 rfl, h3, rfl⟩
  | g :: π, z, l, y, ⟨a1, a2, a3, a4⟩, _, h2, h3 => by
    refine ⟨a1, a2, a3, Trl.snoc hf a4 (fun e => ?_) (fun e => ?_) h3⟩
    · subst e; exact h2 (by simp)
    · have e2 : lastId (g :: π) = lastId π := by
        unfold lastId
        cases π with
        | nil => exact absurd rfl e
        | cons k π => rw [List.getLast?_cons_cons]
      rw [← e2]; exact h2 (by simp)
/-- what the walk hands back -/
def WalkOk (F way : List Fc) (ok : Bool) (x last b : Int) : Prop := (ok = true → Trl F x last way.reverse b) ∧ (ok = false → ∀ p, ¬ Trl F x last p b)
theorem WalkOk.len {F way : List Fc} {x last b : Int} (h : WalkOk F way true x last b) (hF : Frs F) : way.length ≤ F.length := by
  have h1 := h.1 rfl
  have := nodup_len (hF.nodup _ _ _ _ h1) (fun f hf => h1.mem f hf)
  rwa [List.length_reverse] at this
theorem xor_oth {x : Fc} {y : Int} (ho : x.Ok) (hne : x.a ≠ x.b) (hi : x.a = y ∨ x.b = y) : bits .xor .u32 (bits .xor .u32 x.a x.b) y = oth x y := by
  have hxb := xor_back ⟨ho.1, ho.2.1⟩ ⟨ho.2.2.1, ho.2.2.2⟩
  have comm : ∀ p q : Int, bits .xor .u32 p q = bits .xor .u32 q p := fun p q => by
    unfold bits
    show IntKind.u32.wrap ((BitVec.ofInt IntKind.u32.bits p ^^^ BitVec.ofInt IntKind.u32.bits q).toNat : Int) = IntKind.u32.wrap ((BitVec.ofInt IntKind.u32.bits q ^^^ BitVec.ofInt IntKind.u32.bits p).toNat : Int)
    rw [BitVec.xor_comm]
  rw [comm]
  rcases hi with rfl | rfl
  · rw [hxb.1]; unfold oth; rw [if_pos rfl]
  · rw [hxb.2]; unfold oth; rw [if_neg hne]
/-- what lies in memory when the walk begins: the number looked for, the facts at each number, the walk itself -/
structure Nxt (w : World) (gb g8 gf gm : Nat) (F : List Fc) (b : Int) (ob : Obj) (fm : Int → Option Value) (NX : Int → Sg Fc) : Prop where
  lb : gb < w.heap.size
  l8 : g8 < w.heap.size
  lf : gf < w.heap.size
  lm : gm < w.heap.size
  cb : w.cell? ⟨gb, 0, none⟩ = some (.int .u32 b)
  c8 : w.cell? ⟨g8, 0, none⟩ = some (.map (some gm))
  cf : w.cell? ⟨gf, 0, none⟩ = some (.func (.func 38) #[] #[.pointer (some ⟨gb, 0, none⟩), .pointer (some ⟨g8, 0, none⟩), .pointer (some ⟨gf, 0, none⟩)])
  map : w.heap[gm]? = some ob
  mg : MapG (Value.int .u32) (fun a => (Lit.int .u32 a).wf = true) ob fm
  val : ∀ x, (fm x).getD (.slice none 0 0) = (NX x).val
  rows : ∀ x, Reads w w.heap.size 3 (NX x).A (NX x).l.length (fcs (NX x).l)
  inc : ∀ x, ∀ f ∈ (NX x).l, f ∈ F ∧ (f.a = x ∨ f.b = x)
  all : ∀ x, ∀ f ∈ F, (f.a = x ∨ f.b = x) → f ∈ (NX x).l
  frs : Frs F
  ok : ∀ f ∈ F, f.Ok
  few : F.length ≤ 100000
  fewl : ∀ x, (NX x).l.length ≤ 100000
theorem Nxt.below {w w' : World} {gb g8 gf gm : Nat} {F : List Fc} {b : Int} {ob : Obj} {fm : Int → Option Value} {NX : Int → Sg Fc} (h : Nxt w gb g8 gf gm F b ob fm NX) (hb : Below w.heap.size w w') : Nxt w' gb g8 gf gm F b ob fm NX :=
  ⟨Nat.lt_of_lt_of_le h.lb hb.size, Nat.lt_of_lt_of_le h.l8 hb.size, Nat.lt_of_lt_of_le h.lf hb.size, Nat.lt_of_lt_of_le h.lm hb.size, (hb.cell h.lb).trans h.cb, (hb.cell h.l8).trans h.c8, (hb.cell h.lf).trans h.cf, (hb.block gm h.lm).trans h.map, h.mg, h.val, fun x => ((h.rows x).below hb).more hb.size, h.inc, h.all, h.frs, h.ok, h.few, h.fewl⟩
theorem Nxt.noway {w : World} {gb g8 gf gm : Nat} {F : List Fc} {b : Int} {ob : Obj} {fm : Int → Option Value} {NX : Int → Sg Fc} (h : Nxt w gb g8 gf gm F b ob fm NX) {x last : Int} (hx : ¬ x = b) (hno : ∀ (j : Nat) (f : Fc), (NX x).l[j]? = some f → f.id = last ∨ ∀ p, ¬ Trl F (oth f x) f.id p b) : ∀ p, ¬ Trl F x last p b
  | [], hp => hx hp
  | f :: p, ⟨h1, h2, h3, h4⟩ => by
    obtain ⟨j, hj⟩ := List.getElem?_of_mem (h.all x f h1 h3)
    rcases hno j f hj with e | e
    · exact h2 e
    · exact e p h4
theorem gives_lookOld {P : Program} {N : Fr} {E : Env} {w0 : Base} {L : List Pc} {o : Oper} {κ : Type} {enc : κ → Value} {Ok : κ → Prop} {t k e : TypeId} {x y : Operand} {g : Nat} {ob : Obj} {f : κ → Option Value} {a : κ} {z : Value} (ho : o.op = .lookup t x y false) (hx : ev E x = some (.map (some g))) (hy : ev E y = some (enc a)) (K : MKey P k enc Ok) (ht : P.underlying t = some (.map k e)) (hz : ∀ w : World, (zeroValue e).run P w = .ok z w) (hk : ∀ w, Pm w0 L w → w.heap[g]? = some ob) (hm : MapG enc Ok ob f) (ha : Ok a) {v : Value} (hv : (f a).getD z = v) :
    Gives P N o E (Pm w0 L) v := fun ac w hac hw => by
  unfold execOp; rw [ho]
  subst hv
  simp [hac.eval hx, hac.eval hy, hm.look K ht hz (hk w hw) ha false]
theorem uwkag35 (w : World) : (isAgg 35).run Try.prog w = .ok false w := rfl
theorem uwkag63 (w : World) : (isAgg 63).run Try.prog w = .ok false w := rfl
theorem uwkzv26 (w : World) : (zeroValue 26).run Try.prog w = .ok (.slice none 0 0) w := rfl
theorem uwksz42 (w : World) : (sizeOf 42).run Try.prog w = .ok 3 w := rfl
theorem uwkag42 (w : World) : (isAgg 42).run Try.prog w = .ok true w := rfl
theorem uwkzv42 (w : World) : (zeroValue 42).run Try.prog w = .ok (.agg #[.int .i64 0, .int .u32 0, .int .u32 0]) w := rfl
theorem uwkfld42_0 (g o : Nat) (w : World) : (Instr.fieldAt 42 (.pointer (some ⟨g, o, none⟩)) 0).run Try.prog w = .ok (.pointer (some ⟨g, o + 0, none⟩)) w := by kernel_rfl
theorem uwkag3 (w : World) : (isAgg 3).run Try.prog w = .ok false w := rfl
theorem uwkag64 (w : World) : (isAgg 64).run Try.prog w = .ok false w := rfl
theorem uwkfld42_1 (g o : Nat) (w : World) : (Instr.fieldAt 42 (.pointer (some ⟨g, o, none⟩)) 1).run Try.prog w = .ok (.pointer (some ⟨g, o + 1, none⟩)) w := by kernel_rfl
theorem uwkfld42_2 (g o : Nat) (w : World) : (Instr.fieldAt 42 (.pointer (some ⟨g, o, none⟩)) 2).run Try.prog w = .ok (.pointer (some ⟨g, o + 2, none⟩)) w := by kernel_rfl
theorem uwknm38 : (Try.f38.name == "runtime.NumGoroutine") = false := by decide
theorem uwkbd38 : Try.f38.body.isNone = false := rfl
theorem uwkbs26_1_44646 (a0_0 : Int) (a0_1 : Int) (a0_2 : Int) (w : World) : (Instr.buildSlice 26 1 #[(0, .agg #[.int .i64 a0_0, .int .u32 a0_1, .int .u32 a0_2])]).run Try.prog w = .ok (.slice (some ⟨w.heap.size, 0, none⟩) 1 1) (w.alloc (.cells [.int .i64 a0_0, .int .u32 a0_1, .int .u32 a0_2].toArray 42)) := by kernel_rfl
theorem uwkel26 : Elem Try.prog 26 42 3 16 := Elem.mk' Try.underlying26 (z := .agg #[.int .i64 0, .int .u32 0, .int .u32 0]) (by kernel_rfl) rfl (by omega) (by omega)
set_option maxHeartbeats 1000000 in
theorem walk_ind (gb g8 gf gm : Nat) (F : List Fc) (b : Int) (ob : Obj) (fm : Int → Option Value) (NX : Int → Sg Fc) (z0 : Int) : ∀ (M : Nat) (x0 last : Int) (π : List Fc) (w : World), Nxt w gb g8 gf gm F b ob fm NX → Trl F z0 (-1) π x0 → lastId π = last → F.length < M + π.length → (0 ≤ x0 ∧ x0 ≤ 4294967295) →
    Calls Try.prog 38 #[.int .u32 x0, .int .i64 last, .pointer (some ⟨gb, 0, none⟩), .pointer (some ⟨g8, 0, none⟩), .pointer (some ⟨gf, 0, none⟩)] w fun e w' => ∃ x : {y : (Option Addr × Nat) × List Fc × Bool // WalkOk F y.2.1 y.2.2 x0 last b ∧ y.2.1.length ≤ y.1.2 ∧ y.1.2 ≤ maxLen ∧ (y.2.1 = [] → y.1 = (none, 0))}, e = .returned (.tuple #[.slice x.1.1.1 x.1.2.1.length x.1.1.2, .bool x.1.2.2]) ∧ Pm w [.row (.slice x.1.1.1 x.1.2.1.length x.1.1.2) 42 3 x.1.2.1.length (fcs x.1.2.1)] w'
  | 0, x0, last, π, w, hN, hT, hla, hM, hxr => absurd (nodup_len (hN.frs.nodup _ _ _ _ hT) (fun f hf => hT.mem f hf)) (by omega)
  | M + 1, x0, last, π, w, hN, hT, hla, hM, hxr => by
    have ih := fun x0 last π w hN hT hla hM hxr => walk_ind gb g8 gf gm F b ob fm NX z0 M x0 last π w hN hT hla hM hxr
    subst hla
    refine begin_ (vs := [.int .u32 x0, .int .i64 (lastId π), .pointer (some ⟨gb, 0, none⟩), .pointer (some ⟨g8, 0, none⟩), .pointer (some ⟨gf, 0, none⟩)]) Try.func38 rfl rfl rfl ?_ (Pm.start w)
    refine TC.seq_ ?_
    refine TC.region ?_
    refine TL.val rfl rfl rfl (gives_assign rfl rfl) ?_
    refine TL.val rfl rfl rfl (gives_assign rfl rfl) ?_
    refine TL.end_ ?_
    refine TX.then_ ?_
    refine TC.seq_ ?_
    refine TC.seq_ ?_
    refine TC.region ?_
    refine TL.val rfl rfl rfl (gives_move rfl rfl) ?_
    refine TL.val rfl rfl rfl (gives_load (v := .int .u32 b) rfl rfl uwkag35 (fun w1 hw => (hw.bel.cell hN.lb).trans hN.cb)) ?_
    refine TL.vsplit rfl rfl rfl (gives_bin rfl rfl rfl (fun w => bin_eql w)) (fun h15 => ?_) (fun h15 => ?_)
    · have q15 := of_decide_eq_true h15
      refine TL.end_ ?_
      refine TX.then_ ?_
      refine TC.condT rfl ?_
      refine TC.seq_ ?_
      refine TC.region ?_
      refine TL.val rfl rfl rfl (gives_assign rfl rfl) ?_
      refine TL.val rfl rfl rfl (gives_assign rfl rfl) ?_
      refine TL.end_ ?_
      refine TX.then_ ?_
      refine TC.ret_ ?_
      refine TX.then_ret ?_
      exact ret_pair Try.results38 rfl rfl (fun w1 hw => ⟨⟨((none, 0), [], true), ⟨fun _ => q15, fun hh => (by cases hh)⟩, Nat.le_refl _, Nat.zero_le _, fun _ => rfl⟩, rfl, hw.nilrow _ _⟩)
    · have q15 := of_decide_eq_false h15
      refine TL.end_ ?_
      refine TX.then_ ?_
      refine TC.condF rfl ?_
      refine TC.skip_ ?_
      refine TX.then_ ?_
      refine TC.seq_ ?_
      refine TC.seq_ ?_
      refine TC.region ?_
      refine TL.val rfl rfl rfl (gives_load (v := .map (some gm)) rfl rfl uwkag63 (fun w1 hw => (hw.bel.cell hN.l8).trans hN.c8)) ?_
      refine TL.val rfl rfl rfl (gives_move rfl rfl) ?_
      refine TL.val rfl rfl rfl (gives_lookOld rfl rfl rfl (mkey_int Try.underlying35) Try.underlying63 uwkzv26 (fun w1 hw => (hw.bel.block gm hN.lm).trans hN.map) hN.mg (wf32 hxr) (hN.val x0)) ?_
      refine TL.val rfl rfl rfl (gives_len rfl Try.underlying26 rfl) ?_
      refine TL.val rfl rfl rfl (gives_move rfl rfl) ?_
      refine TL.end_ ?_
      refine TX.then_ ?_
      refine TC.block ?_
      refine TC.loop_ (α := {i : Nat // i ≤ (NX x0).l.length ∧ ∀ j, j < i → ∀ f, (NX x0).l[j]? = some f → f.id = lastId π ∨ ∀ p, ¬ Trl F (oth f x0) f.id p b}) (fun y => [(0, .int .u32 x0), (1, .int .i64 (lastId π)), (2, .pointer (some ⟨gb, 0, none⟩)), (3, .pointer (some ⟨g8, 0, none⟩)), (4, .pointer (some ⟨gf, 0, none⟩)), (18, .slice ((NX x0).A) ((NX x0).l.length) ((NX x0).c)), (19, .int .i64 (((NX x0).l.length : Nat) : Int)), (20, .int .i64 ((y.1 : Nat) : Int))]) (fun y => Pm w []) (fun y => (NX x0).l.length - y.1) (⟨0, Nat.zero_le _, fun j hj => absurd hj (Nat.not_lt_zero _)⟩) ⟨rfl, rfl, rfl, rfl, rfl, rfl, rfl, rfl, trivial⟩ (fun w1 hw => hw) ?_
      rintro ⟨i, hi, hno⟩
      try dsimp only
      refine TC.seq_ ?_
      refine TC.region ?_
      refine TL.vsplit rfl rfl rfl (gives_bin rfl rfl rfl (fun w => bin_lss w)) (fun h21 => ?_) (fun h21 => ?_)
      · have q21 := of_decide_eq_true h21
        have hi2 : i < (NX x0).l.length := by omega
        obtain ⟨x, hx⟩ : ∃ x, (NX x0).l[i]? = some x := ⟨_, List.getElem?_eq_getElem hi2⟩
        obtain ⟨b2, o2, hA2, hbb2, hc2⟩ := (hN.rows x0).ad (by omega) (by decide)
        obtain ⟨hxF, hxi⟩ := hN.inc x0 x (List.mem_of_getElem? hx)
        have hxo := hN.ok x hxF
        have hfl := hN.fewl x0
        refine TL.end_ ?_
        refine TX.then_ ?_
        refine TC.seq_ ?_
        refine TC.condT rfl ?_
        refine TC.skip_ ?_
        refine TX.then_ ?_
        refine TC.seq_ ?_
        refine TC.block ?_
        refine TC.seq_ ?_
        refine TC.region ?_
        refine TL.val rfl rfl rfl (gives_at (v := .pointer (some ⟨b2, o2 + i * 3, none⟩)) rfl rfl rfl (fun w => at_el Try.underlying26 uwksz42 hA2 _ _ i hi2 rfl w)) ?_
        refine TL.val rfl rfl rfl (gives_loadR rfl rfl uwkag42 uwksz42 (fc_cells_len x) (fun w1 hw j u hu => (hw.bel.cell hbb2).trans (fcs_cell hx hc2 j u hu))) ?_
        refine TL.pnew rfl rfl rfl (exec_alloc (cs := [.int .i64 0, .int .u32 0, .int .u32 0]) rfl uwkzv42 rfl) (fun g10 => ?_)
        refine TL.pstore (k := 0) (vs := x.cells) rfl rfl rfl rfl rfl rfl rfl uwksz42 (fc_one x) (by show 3 ≤ 3; decide) (L' := [.blk g10 42 x.cells]) rfl ?_
        refine TL.end_ ?_
        refine TX.then_ ?_
        refine TC.seq_ ?_
        refine TC.seq_ ?_
        refine TC.region ?_
        refine TL.val rfl rfl rfl (gives_field (v := .pointer (some ⟨g10, 0, none⟩)) rfl rfl (fun w => uwkfld42_0 _ _ w)) ?_
        refine TL.val rfl rfl rfl (pm_load (k := 0) (i := 0) rfl rfl uwkag3 rfl rfl) ?_
        refine TL.val rfl rfl rfl (gives_move rfl rfl) ?_
        refine TL.vsplit rfl rfl rfl (gives_bin rfl rfl rfl (fun w => bin_eql w)) (fun h27 => ?_) (fun h27 => ?_)
        · have q27 := of_decide_eq_true h27
          have hno2 : ∀ j, j < i + 1 → ∀ f, (NX x0).l[j]? = some f → f.id = lastId π ∨ ∀ p, ¬ Trl F (oth f x0) f.id p b := fun j hj f hf => (by rcases Nat.lt_or_ge j i with hh | hh; (exact hno j hh f hf); (obtain rfl : j = i := by omega); rw [hx] at hf; cases hf; exact .inl q27)
          refine TL.end_ ?_
          refine TX.then_ ?_
          refine TC.condT rfl ?_
          refine TC.exit_ ?_
          refine TX.then_exit ?_
          refine TX.in_same ?_
          refine TX.then_ ?_
          refine TC.region ?_
          refine TL.val rfl rfl rfl (gives_bin rfl rfl rfl (fun w => bin_add_ (r := ((i + 1 : Nat) : Int)) (by simp only [IntKind.wrap_i64]; omega) w)) ?_
          refine TL.val rfl rfl rfl (gives_move rfl rfl) ?_
          refine TL.end_ ?_
          exact TX.round (⟨i + 1, hi2, hno2⟩) (by show (NX x0).l.length - (i + 1) < (NX x0).l.length - i; omega) ⟨rfl, rfl, rfl, rfl, rfl, rfl, rfl, rfl, trivial⟩ (fun w1 hw => hw.pick [] (by decide) rfl)
        · have q27 := of_decide_eq_false h27
          have hxl : x.id ≠ lastId π := q27
          refine TL.end_ ?_
          refine TX.then_ ?_
          refine TC.condF rfl ?_
          refine TC.skip_ ?_
          refine TX.then_ ?_
          refine TC.seq_ ?_
          refine TC.region ?_
          refine TL.val rfl rfl rfl (gives_load (v := .func (.func 38) #[] #[.pointer (some ⟨gb, 0, none⟩), .pointer (some ⟨g8, 0, none⟩), .pointer (some ⟨gf, 0, none⟩)]) rfl rfl uwkag64 (fun w1 hw => (hw.bel.cell hN.lf).trans hN.cf)) ?_
          refine TL.val rfl rfl rfl (gives_field (v := .pointer (some ⟨g10, 1, none⟩)) rfl rfl (fun w => uwkfld42_1 _ _ w)) ?_
          refine TL.val rfl rfl rfl (pm_load (k := 0) (i := 1) rfl rfl uwkag35 rfl rfl) ?_
          refine TL.val rfl rfl rfl (gives_field (v := .pointer (some ⟨g10, 2, none⟩)) rfl rfl (fun w => uwkfld42_2 _ _ w)) ?_
          refine TL.val rfl rfl rfl (pm_load (k := 0) (i := 2) rfl rfl uwkag35 rfl rfl) ?_
          refine TL.val rfl rfl rfl (gives_bin rfl rfl rfl (fun w => bin_bits (.inr (.inr rfl)) w)) ?_
          refine TL.val rfl rfl rfl (gives_move rfl rfl) ?_
          refine TL.val rfl rfl rfl (gives_bin (v := .int .u32 (oth x x0)) rfl rfl rfl (fun w => by rw [bin_bits (.inr (.inr rfl)) w, xor_oth hxo (hN.frs.ne x hxF) hxi])) ?_
          refine TL.val rfl rfl rfl (gives_field (v := .pointer (some ⟨g10, 0, none⟩)) rfl rfl (fun w => uwkfld42_0 _ _ w)) ?_
          refine TL.val rfl rfl rfl (pm_load (k := 0) (i := 0) rfl rfl uwkag3 rfl rfl) ?_
          refine TL.callEPm (α := {y : (Option Addr × Nat) × List Fc × Bool // WalkOk F y.2.1 y.2.2 (oth x x0) x.id b ∧ y.2.1.length ≤ y.1.2 ∧ y.1.2 ≤ maxLen ∧ (y.2.1 = [] → y.1 = (none, 0))}) (fun y => .tuple #[.slice y.1.1.1 y.1.2.1.length y.1.1.2, .bool y.1.2.2]) (fun y => [.row (.slice y.1.1.1 y.1.2.1.length y.1.1.2) 42 3 y.1.2.1.length (fcs y.1.2.1)]) rfl rfl rfl (ent_val rfl rfl rfl Try.func38 uwknm38 uwkbd38 rfl) (fun w1 hw => ih (oth x x0) x.id (π ++ [x]) w1 (hN.below hw.bel) (hT.snoc hxF (fun e => by subst e; exact hxl) (fun _ => hxl) hxi) (lastId_snoc π x) (by rw [List.length_append, List.length_singleton]; omega) (oth_range hxo _)) ?_
          rintro ⟨⟨⟨AA, cc⟩, way, ok⟩, hok, hc1, hc2, hc3⟩
          dsimp only [List.cons_append, List.nil_append] at hok hc1 hc2 ⊢
          refine TL.val rfl rfl rfl (gives_move rfl rfl) ?_
          refine TL.val rfl rfl rfl (gives_extract rfl rfl rfl) ?_
          refine TL.val rfl rfl rfl (gives_extract rfl rfl rfl) ?_
          refine TL.val rfl rfl rfl (gives_assign rfl rfl) ?_
          refine TL.val rfl rfl rfl (gives_assign rfl rfl) ?_
          refine TL.end_ ?_
          refine TX.then_ ?_
          refine TC.seq_ ?_
          refine TC.region ?_
          refine TL.vsplit rfl rfl rfl (gives_move rfl rfl) (fun h42 => ?_) (fun h42 => ?_)
          · subst h42
            refine TL.end_ ?_
            refine TX.then_ ?_
            refine TC.condT rfl ?_
            refine TC.seq_ ?_
            refine TC.region ?_
            refine TL.val rfl rfl rfl (gives_move rfl rfl) ?_
            refine TL.val rfl rfl rfl (pm_loadV (k := 1) (i := 0) (n := 3) (v := .agg (x.cells).toArray) rfl rfl uwkag42 uwksz42 rfl (by show 3 ≤ 3; decide) rfl) ?_
            refine TL.prowS (e := 42) (size := 3) (cs := fcs [x]) rfl rfl rfl rfl rfl (fun w => uwkbs26_1_44646 _ _ _ w) (by decide) rfl (fun g45 => ?_)
            refine TL.appendT (k := 1) rfl rfl rfl rfl Try.underlying26 uwkel26 rfl rfl rfl (fun w1 hw => pm_reads hw (k := 0) rfl) (fcs_one _) (by have := hok.len hN.frs; have := hN.few; show _ * 16 ≤ _; omega) ((way ++ [x]).length) (by rw [List.length_append]; rfl) (fcs (way ++ [x])) (by rw [fcs_app]) (fun A46 c46 hA461 hA462 => ?_)
            refine TL.val rfl rfl rfl (gives_assign rfl rfl) ?_
            refine TL.val rfl rfl rfl (gives_assign rfl rfl) ?_
            refine TL.end_ ?_
            refine TX.then_ ?_
            refine TC.ret_ ?_
            refine TX.in_ret ?_
            refine TX.then_ret ?_
            refine TX.then_ret ?_
            refine TX.in_ret ?_
            refine TX.then_ret ?_
            have hfin : WalkOk F (way ++ [x]) true x0 (lastId π) b := ⟨fun _ => by rw [List.reverse_append]; exact ⟨hxF, hxl, hxi, hok.1 rfl⟩, fun hh => (by cases hh)⟩
            exact ret_pair Try.results38 rfl rfl (fun w1 hw => ⟨⟨((A46, c46), way ++ [x], true), hfin, hA461, hA462, fun hh => by simp at hh⟩, rfl, hw.pick [1] (by decide) rfl⟩)
          · subst h42
            have hno2 : ∀ j, j < i + 1 → ∀ f, (NX x0).l[j]? = some f → f.id = lastId π ∨ ∀ p, ¬ Trl F (oth f x0) f.id p b := fun j hj f hf => (by rcases Nat.lt_or_ge j i with hh | hh; (exact hno j hh f hf); (obtain rfl : j = i := by omega); rw [hx] at hf; cases hf; exact .inr (hok.2 rfl))
            refine TL.end_ ?_
            refine TX.then_ ?_
            refine TC.condF rfl ?_
            refine TC.skip_ ?_
            refine TX.in_normal ?_
            refine TX.then_ ?_
            refine TC.region ?_
            refine TL.val rfl rfl rfl (gives_bin rfl rfl rfl (fun w => bin_add_ (r := ((i + 1 : Nat) : Int)) (by simp only [IntKind.wrap_i64]; omega) w)) ?_
            refine TL.val rfl rfl rfl (gives_move rfl rfl) ?_
            refine TL.end_ ?_
            exact TX.round (⟨i + 1, hi2, hno2⟩) (by show (NX x0).l.length - (i + 1) < (NX x0).l.length - i; omega) ⟨rfl, rfl, rfl, rfl, rfl, rfl, rfl, rfl, trivial⟩ (fun w1 hw => hw.pick [] (by decide) rfl)
      · have q21 := of_decide_eq_false h21
        refine TL.end_ ?_
        refine TX.then_ ?_
        refine TC.seq_ ?_
        refine TC.condF rfl ?_
        refine TC.exit_ ?_
        refine TX.then_exit ?_
        refine TX.then_exit ?_
        refine TX.in_same ?_
        refine TX.then_ ?_
        refine TC.seq_ ?_
        refine TC.region ?_
        refine TL.val rfl rfl rfl (gives_assign rfl rfl) ?_
        refine TL.val rfl rfl rfl (gives_assign rfl rfl) ?_
        refine TL.end_ ?_
        refine TX.then_ ?_
        refine TC.ret_ ?_
        have hfin : WalkOk F [] false x0 (lastId π) b := ⟨fun hh => (by cases hh), fun _ p hp => hN.noway q15 (fun j f hf => hno j (by have := (List.getElem?_eq_some_iff.1 hf).1; omega) f hf) p hp⟩
        exact ret_pair Try.results38 rfl rfl (fun w1 hw => ⟨⟨((none, 0), [], false), hfin, Nat.le_refl _, Nat.zero_le _, fun _ => rfl⟩, rfl, hw.nilrow _ _⟩)
end Go.Proofs.Ytleckflmckbheaa

namespace Go.Proofs.Ytleckflmckbheaa
open Go.RowKit
set_option linter.unusedVariables false
set_option linter.unusedSimpArgs false
set_option maxRecDepth 20000
/-- the facts at a number -/
def incF (F : List Fc) (x : Int) : List Fc := F.filter fun f => decide (f.a = x ∨ f.b = x)
theorem incF_len (F : List Fc) (x : Int) : (incF F x).length ≤ F.length := List.length_filter_le _ _
def addS (sp : Int → List Fc) (k : Int) (x : Fc) : Int → List Fc := fun z => if z = k then sp z ++ [x] else sp z
theorem inc_step {F : List Fc} {x : Fc} (hne : x.a ≠ x.b) : addS (addS (incF F) x.a x) x.b x = incF (F ++ [x]) := by
  funext z
  unfold addS incF
  rw [List.filter_append]
  by_cases e1 : z = x.b
  · subst e1
    rw [if_pos rfl, if_neg (fun hh => hne hh.symm), List.filter_cons, if_pos (decide_eq_true (.inr rfl))]
    rfl
  · rw [if_neg e1]
    by_cases e2 : z = x.a
    · subst e2
      rw [if_pos rfl, List.filter_cons, if_pos (decide_eq_true (.inl rfl))]
      rfl
    · rw [if_neg e2, List.filter_cons, if_neg (by simp; exact ⟨fun hh => e2 hh.symm, fun hh => e1 hh.symm⟩)]
      simp
def getS (ps : List (Int × Sg Fc)) (x : Int) : Sg Fc := ((ps.find? fun p => decide (p.1 = x)).map (·.2)).getD (Sg.nil Fc)
/-- a map from numbers to lists of facts -/
structure MapS (ob : Obj) (ps : List (Int × Sg Fc)) (sp : Int → List Fc) : Prop where
  map : ∃ fm : Int → Option Value, MapG (Value.int .u32) (fun a => (Lit.int .u32 a).wf = true) ob fm ∧ ∀ x, fm x = (ps.find? fun p => decide (p.1 = x)).map (·.2.val)
  nd : (ps.map (·.1)).Nodup
  sp : ∀ x, (getS ps x).l = sp x
theorem mapS_nil : MapS (.map #[] 0) [] (incF ([] : List Fc)) := ⟨⟨fun _ => none, mapG_new _ _, fun _ => rfl⟩, List.nodup_nil, fun _ => rfl⟩
theorem find_key {ps : List (Int × Sg Fc)} (nd : (ps.map (·.1)).Nodup) {z : Int} {p : Int × Sg Fc} : (ps.find? fun p => decide (p.1 = z)) = some p ↔ p ∈ ps ∧ p.1 = z := by
  constructor
  · intro h
    exact ⟨List.mem_of_find?_eq_some h, by have := List.find?_some h; simpa using this⟩
  · rintro ⟨h1, h2⟩
    induction ps with
    | nil => cases h1
    | cons q ps ih =>
      obtain ⟨n1, n2⟩ := List.nodup_cons.1 nd
      rw [List.find?_cons]
      rcases List.mem_cons.1 h1 with rfl | h1
      · rw [decide_eq_true h2]
      · have : ¬ q.1 = z := fun e => n1 (List.mem_map.2 ⟨p, h1, h2.trans e.symm⟩)
        rw [decide_eq_false this]
        exact ih n2 h1
theorem find_at {ps : List (Int × Sg Fc)} {z : Int} {p : Int × Sg Fc} (h : (ps.find? fun p => decide (p.1 = z)) = some p) : ∃ (k : Nat) (s : Sg Fc), ps[k]? = some (z, s) ∧ p = (z, s) := by
  obtain ⟨k, hk⟩ := List.getElem?_of_mem (List.mem_of_find?_eq_some h)
  have e : p.1 = z := by have := List.find?_some h; simpa using this
  obtain ⟨y, s⟩ := p
  cases e
  exact ⟨k, s, hk, rfl⟩
theorem getS_of {ps : List (Int × Sg Fc)} {z : Int} {s : Sg Fc} (h : (ps.find? fun p => decide (p.1 = z)) = some (z, s)) : getS ps z = s := by unfold getS; rw [h]; rfl
theorem map_at {ps : List (Int × Sg Fc)} {k : Nat} {z : Int} {s : Sg Fc} (h : ps[k]? = some (z, s)) : (ps.map (·.2))[k]? = some s := by rw [List.getElem?_map, h]; rfl
theorem MapS.put {ob ob' : Obj} {ps ps' : List (Int × Sg Fc)} {sp : Int → List Fc} {fm : Int → Option Value} {k : Int} {s' : Sg Fc} {x : Fc} (h : MapS ob ps sp) (hfm : ∀ x, fm x = (ps.find? fun p => decide (p.1 = x)).map (·.2.val)) (hm : MapG (Value.int .u32) (fun a => (Lit.int .u32 a).wf = true) ob' (fun z => if z = k then some s'.val else fm z))
    (nd : (ps'.map (·.1)).Nodup) (hp : ∀ p, p ∈ ps' ↔ p = (k, s') ∨ (p ∈ ps ∧ p.1 ≠ k)) (hs : s'.l = sp k ++ [x]) : MapS ob' ps' (addS sp k x) := by
  have hfind : ∀ z, (ps'.find? fun p => decide (p.1 = z)) = if z = k then some (k, s') else ps.find? fun p => decide (p.1 = z) := fun z => by
    refine Option.ext fun p => ?_
    rw [find_key nd, hp]
    by_cases e : z = k
    · subst e
      rw [if_pos rfl]
      constructor
      · rintro ⟨rfl | h1, h2⟩
        · rfl
        · exact absurd h2 h1.2
      · intro hh
        cases hh
        exact ⟨.inl rfl, rfl⟩
    · rw [if_neg e, find_key h.nd]
      constructor
      · rintro ⟨rfl | h1, h2⟩
        · exact absurd h2.symm e
        · exact ⟨h1.1, h2⟩
      · rintro ⟨h1, h2⟩
        exact ⟨.inr ⟨h1, fun e2 => e (h2.symm.trans e2)⟩, h2⟩
  refine ⟨⟨_, hm, fun z => ?_⟩, nd, fun z => ?_⟩
  · rw [hfind]
    show (if z = k then some s'.val else fm z) = _
    by_cases e : z = k
    · rw [if_pos e, if_pos e]; rfl
    · rw [if_neg e, if_neg e, hfm]
  · unfold getS addS
    rw [hfind]
    by_cases e : z = k
    · subst e
      rw [if_pos rfl, if_pos rfl]
      exact hs
    · rw [if_neg e, if_neg e]
      exact h.sp z
theorem MapS.new {ob ob' : Obj} {ps : List (Int × Sg Fc)} {sp : Int → List Fc} {fm : Int → Option Value} {k : Int} {A : Option Addr} {c : Nat} {x : Fc} (h : MapS ob ps sp) (hfi : (ps.find? fun p => decide (p.1 = k)) = none) (hfm : ∀ x, fm x = (ps.find? fun p => decide (p.1 = x)).map (·.2.val)) (hm : MapG (Value.int .u32) (fun a => (Lit.int .u32 a).wf = true) ob' (fun z => if z = k then some (Sg.val (⟨A, c, [x]⟩ : Sg Fc)) else fm z)) : MapS ob' (ps ++ [(k, ⟨A, c, [x]⟩)]) (addS sp k x) := by
  have hno : ∀ p ∈ ps, p.1 ≠ k := fun p hp => by
    have := List.find?_eq_none.1 hfi p hp
    simpa using this
  refine h.put hfm hm ?_ (fun p => ?_) ?_
  · rw [List.map_append]
    refine List.nodup_append.2 ⟨h.nd, List.pairwise_singleton _ _, fun a ha b hb e => ?_⟩
    rw [List.map_singleton, List.mem_singleton] at hb
    obtain ⟨p, hp, e2⟩ := List.mem_map.1 ha
    exact hno p hp (e2.trans (e.trans hb))
  · rw [List.mem_append, List.mem_singleton]
    constructor
    · rintro (hp | hp)
      · exact .inr ⟨hp, hno p hp⟩
      · exact .inl hp
    · rintro (hp | hp)
      · exact .inr hp
      · exact .inl hp.1
  · have := h.sp k
    unfold getS at this
    rw [hfi] at this
    rw [← this]
    rfl
theorem MapS.old {ob ob' : Obj} {ps : List (Int × Sg Fc)} {sp : Int → List Fc} {fm : Int → Option Value} {i : Nat} {k : Int} {s : Sg Fc} {A : Option Addr} {c : Nat} {x : Fc} (h : MapS ob ps sp) (hfi : (ps.find? fun p => decide (p.1 = k)) = some (k, s)) (hi : ps[i]? = some (k, s)) (hfm : ∀ x, fm x = (ps.find? fun p => decide (p.1 = x)).map (·.2.val)) (hm : MapG (Value.int .u32) (fun a => (Lit.int .u32 a).wf = true) ob' (fun z => if z = k then some (Sg.val (⟨A, c, s.l ++ [x]⟩ : Sg Fc)) else fm z)) : MapS ob' (ps.set i (k, ⟨A, c, s.l ++ [x]⟩)) (addS sp k x) := by
  have hlt := (List.getElem?_eq_some_iff.1 hi).1
  have hkeys : (ps.set i (k, (⟨A, c, s.l ++ [x]⟩ : Sg Fc))).map (·.1) = ps.map (·.1) := by
    rw [List.map_set]
    refine List.ext_getElem? fun j => ?_
    rw [List.getElem?_set]
    by_cases e : i = j
    · subst e
      rw [if_pos rfl, if_pos (by rw [List.length_map]; exact hlt), List.getElem?_map, hi]
      rfl
    · rw [if_neg e]
  refine h.put hfm hm (by rw [hkeys]; exact h.nd) (fun p => ?_) ?_
  · have huniq : ∀ j q, ps[j]? = some q → q.1 = k → j = i := fun j q hj e => by
      refine (List.getElem?_inj (l := ps.map (·.1)) (by rw [List.length_map]; exact (List.getElem?_eq_some_iff.1 hj).1) h.nd).1 ?_
      rw [List.getElem?_map, List.getElem?_map, hj, hi]
      simp [e]
    constructor
    · intro hp
      obtain ⟨j, hj⟩ := List.getElem?_of_mem hp
      rw [List.getElem?_set] at hj
      by_cases e : i = j
      · rw [if_pos e, if_pos hlt] at hj
        cases hj
        exact .inl rfl
      · rw [if_neg e] at hj
        exact .inr ⟨List.mem_of_getElem? hj, fun e2 => e (huniq j p hj e2).symm⟩
    · rintro (rfl | ⟨h1, h2⟩)
      · exact List.mem_set hlt _
      · obtain ⟨j, hj⟩ := List.getElem?_of_mem h1
        have e : i ≠ j := fun e => by subst e; rw [hi] at hj; cases hj; exact h2 rfl
        exact List.mem_of_getElem? (i := j) (by rw [List.getElem?_set, if_neg e]; exact hj)
  · rw [← h.sp k, getS_of hfi]
theorem Pm.segPush {α : Type} {e : TypeId} {size : Nat} {enc : List α → List Value} {w0 : Base} {w : World} {P : List Pc} {ss : List (Sg α)} {s : Sg α} (h : Pm w0 ((.row (.slice s.A s.l.length s.c) e size s.l.length (enc s.l) :: P) ++ segG e size enc ss) w) : Pm w0 (P ++ segG e size enc (ss ++ [s])) w := by
  refine h.permute ?_
  have h1 : segG e size enc (ss ++ [s]) = segG e size enc ss ++ [.row (.slice s.A s.l.length s.c) e size s.l.length (enc s.l)] := by unfold segG; rw [List.map_append]; rfl
  rw [h1, ← List.append_assoc]
  exact (List.perm_append_singleton _ _).symm
/-- what the walk of Explain finds in memory -/
theorem nxt_of {w0 : Base} {L : List Pc} {w : World} {g5 g8 g11 gm k5 k8 k11 km : Nat} {F : List Fc} {b : Int} {ob : Obj} {fm : Int → Option Value} {ps : List (Int × Sg Fc)} {t5 t8 t11 : TypeId} (hw : Pm w0 L w)
    (h11 : L[k11]? = some (.blk g11 t11 [.func (.func 38) #[] #[.pointer (some ⟨g5, 0, none⟩), .pointer (some ⟨g8, 0, none⟩), .pointer (some ⟨g11, 0, none⟩)]])) (h5 : L[k5]? = some (.blk g5 t5 [.int .u32 b])) (h8 : L[k8]? = some (.blk g8 t8 [.map (some gm)])) (hm : L[km]? = some (.oth gm ob)) (hseg : ∀ s ∈ ps.map (·.2), Sg.pc 42 3 fcs s ∈ L)
    (hmg : MapG (Value.int .u32) (fun a => (Lit.int .u32 a).wf = true) ob fm) (hfm : ∀ x, fm x = (ps.find? fun p => decide (p.1 = x)).map (·.2.val)) (hS : MapS ob ps (incF F)) (hF : Frs F) (hok : ∀ f ∈ F, f.Ok) (hfew : F.length ≤ 100000) : Nxt w g5 g8 g11 gm F b ob fm (getS ps) := by
  refine ⟨(Pc.lt (hw.at_ h5) g5 rfl).2, (Pc.lt (hw.at_ h8) g8 rfl).2, (Pc.lt (hw.at_ h11) g11 rfl).2, (Pc.lt (hw.at_ hm) gm rfl).2, (hw.cell h5 0).trans rfl, (hw.cell h8 0).trans rfl, (hw.cell h11 0).trans rfl, (hw.at_ hm).1, hmg, fun x => ?_, fun x => ?_, fun x f hf => ?_, fun x f hf hx => ?_, hF, hok, hfew, fun x => ?_⟩
  · rw [hfm]
    unfold getS
    cases ps.find? fun p => decide (p.1 = x) with
    | none => rfl
    | some p => rfl
  · unfold getS
    cases hfi : ps.find? fun p => decide (p.1 = x) with
    | none => exact Reads.none_
    | some p =>
      have hp := hseg p.2 (List.mem_map.2 ⟨p, List.mem_of_find?_eq_some hfi, rfl⟩)
      obtain ⟨k, hk⟩ := List.getElem?_of_mem hp
      obtain ⟨B, h9⟩ := pm_reads hw hk
      exact reads_up h9 (pm_row_lt hw hk)
  · rw [hS.sp] at hf
    have h1 := List.mem_filter.1 hf
    exact ⟨h1.1, of_decide_eq_true h1.2⟩
  · rw [hS.sp]
    exact List.mem_filter.2 ⟨hf, decide_eq_true hx⟩
  · rw [hS.sp]
    exact Nat.le_trans (incF_len F x) hfew
/-- the facts of a forest -/
theorem forest_frs {l : List Fc} (hV : validF l) : Frs (forest l) := by
  have hsub : ∀ f ∈ forest l, f ∈ l := fun f hf => forF_sub l _ f hf
  have hids : ∀ f ∈ l, ∀ g ∈ l, f.id = g.id → f = g := fun f hf g hg e => by
    obtain ⟨p, hp⟩ := List.getElem?_of_mem hf
    obtain ⟨q, hq⟩ := List.getElem?_of_mem hg
    rcases Nat.lt_trichotomy p q with h | h | h
    · have := hV.asc p q f g h hp hq; omega
    · subst h; rw [hp] at hq; exact Option.some.inj hq
    · have := hV.asc q p g f h hq hp; omega
  have hat : ∀ f ∈ l, 0 ≤ f.id ∧ f.a ≠ f.b := fun f hf => by
    obtain ⟨p, hp⟩ := List.getElem?_of_mem hf
    have := hV.2 p (List.getElem?_eq_some_iff.1 hp).1 f hp
    exact ⟨this.1, this.2.1⟩
  refine ⟨fun f hf g hg e => hids f (hsub f hf) g (hsub g hg) e, fun f hf => (hat f (hsub f hf)).2, fun f hf => (hat f (hsub f hf)).1, fun f hf hc => ?_⟩
  obtain ⟨p, q, hs⟩ := List.append_of_mem hf
  refine forest_bridge rfl hs (hc.mono fun g hg => ?_)
  obtain ⟨h1, h2⟩ := List.mem_filter.1 hg
  have h2 := of_decide_eq_true h2
  rw [hs] at h1
  rcases List.mem_append.1 h1 with h | h
  · exact List.mem_append_left _ h
  · rcases List.mem_cons.1 h with h | h
    · exact absurd h h2
    · exact List.mem_append_right _ h
/-- what Explain says -/
def ExOk (l : List Fc) (a b : Int) (y : List Fc × Bool) : Prop := (y.2 = true ↔ validF l ∧ repF l a = repF l b) ∧ (y.2 = false → y.1 = []) ∧ (y.2 = true → Trl (forest l) a (-1) y.1 b)
theorem uexag35 (w : World) : (isAgg 35).run Try.prog w = .ok false w := rfl
theorem uexnm17 : (Try.f17.name == "runtime.NumGoroutine") = false := by decide
theorem uexbd17 : Try.f17.body.isNone = false := rfl
theorem uexzv63 (w : World) : (zeroValue 63).run Try.prog w = .ok (.map none) w := rfl
theorem uexsz63 (w : World) : (sizeOf 63).run Try.prog w = .ok 1 w := rfl
theorem uexnm12 : (Try.f12.name == "runtime.NumGoroutine") = false := by decide
theorem uexbd12 : Try.f12.body.isNone = false := rfl
theorem uexsz42 (w : World) : (sizeOf 42).run Try.prog w = .ok 3 w := rfl
theorem uexag42 (w : World) : (isAgg 42).run Try.prog w = .ok true w := rfl
theorem uexzv42 (w : World) : (zeroValue 42).run Try.prog w = .ok (.agg #[.int .i64 0, .int .u32 0, .int .u32 0]) w := rfl
theorem uexag63 (w : World) : (isAgg 63).run Try.prog w = .ok false w := rfl
theorem uexfld42_1 (g o : Nat) (w : World) : (Instr.fieldAt 42 (.pointer (some ⟨g, o, none⟩)) 1).run Try.prog w = .ok (.pointer (some ⟨g, o + 1, none⟩)) w := by kernel_rfl
theorem uexzv26 (w : World) : (zeroValue 26).run Try.prog w = .ok (.slice none 0 0) w := rfl
theorem uexbs26_1_44646 (a0_0 : Int) (a0_1 : Int) (a0_2 : Int) (w : World) : (Instr.buildSlice 26 1 #[(0, .agg #[.int .i64 a0_0, .int .u32 a0_1, .int .u32 a0_2])]).run Try.prog w = .ok (.slice (some ⟨w.heap.size, 0, none⟩) 1 1) (w.alloc (.cells [.int .i64 a0_0, .int .u32 a0_1, .int .u32 a0_2].toArray 42)) := by kernel_rfl
theorem uexel26 : Elem Try.prog 26 42 3 16 := Elem.mk' Try.underlying26 (z := .agg #[.int .i64 0, .int .u32 0, .int .u32 0]) (by kernel_rfl) rfl (by omega) (by omega)
theorem uexfld42_2 (g o : Nat) (w : World) : (Instr.fieldAt 42 (.pointer (some ⟨g, o, none⟩)) 2).run Try.prog w = .ok (.pointer (some ⟨g, o + 2, none⟩)) w := by kernel_rfl
theorem uexzv64 (w : World) : (zeroValue 64).run Try.prog w = .ok (.nilFunc) w := rfl
theorem uexsz64 (w : World) : (sizeOf 64).run Try.prog w = .ok 1 w := rfl
theorem uexag64 (w : World) : (isAgg 64).run Try.prog w = .ok false w := rfl
theorem uexnm38 : (Try.f38.name == "runtime.NumGoroutine") = false := by decide
theorem uexbd38 : Try.f38.body.isNone = false := rfl
theorem uexnm39 : (Try.f39.name == "runtime.NumGoroutine") = false := by decide
theorem uexbd39 : Try.f39.body.isNone = false := rfl
set_option maxHeartbeats 1000000 in
theorem explain_any (A0 : Option Addr) (n0 c0 : Nat) (l : List Fc) (w : World) (hr : Reads w w.heap.size 3 A0 n0 (fcs l)) (hl : l.length = n0) (hok : ∀ f ∈ l, f.Ok) (a b : Int) (har : 0 ≤ a ∧ a ≤ 4294967295) (hbr : 0 ≤ b ∧ b ≤ 4294967295) :
    Calls Try.prog 16 #[.slice A0 n0 c0, .int .u32 a, .int .u32 b] w fun e w' => ∃ x : {y : (Option Addr × Nat) × List Fc × Bool // ExOk l a b y.2 ∧ y.2.1.length ≤ y.1.2 ∧ y.1.2 ≤ maxLen}, e = .returned (.tuple #[.slice x.1.1.1 x.1.2.1.length x.1.1.2, .bool x.1.2.2]) ∧ Pm w [.row (.slice x.1.1.1 x.1.2.1.length x.1.1.2) 42 3 x.1.2.1.length (fcs x.1.2.1)] w' := by
  subst hl
  refine begin_ (vs := [.slice A0 l.length c0, .int .u32 a, .int .u32 b]) Try.func16 rfl rfl rfl ?_ (Pm.start w)
  refine TC.seq_ ?_
  refine TC.region ?_
  refine TL.pnew rfl rfl rfl (exec_box (cs := [.int .u32 b]) rfl rfl rfl) (fun g5 => ?_)
  refine TL.val rfl rfl rfl (gives_assign rfl rfl) ?_
  refine TL.val rfl rfl rfl (gives_assign rfl rfl) ?_
  refine TL.end_ ?_
  refine TX.then_ ?_
  refine TC.seq_ ?_
  refine TC.seq_ ?_
  refine TC.region ?_
  refine TL.val rfl rfl rfl (gives_move rfl rfl) ?_
  refine TL.val rfl rfl rfl (gives_move rfl rfl) ?_
  refine TL.val rfl rfl rfl (pm_load (k := 0) (i := 0) rfl rfl uexag35 rfl rfl) ?_
  refine TL.callsplit rfl rfl rfl rfl rfl Try.func17 uexnm17 uexbd17 (fun w1 hw => same_any A0 _ c0 l w1 ((hr.below hw.bel).more hw.bel.size) rfl hok a b har hbr) (fun h17 => ?_) (fun h17 => ?_)
  · have hsm : validF l ∧ repF l a = repF l b := of_decide_eq_true h17
    have hV := hsm.1
    have hl1 : l.length ≤ 1024 := hV.1
    have hfl := forest_le l
    have hfrs := forest_frs hV
    have hokf : ∀ f ∈ forest l, f.Ok := fun f hf => hok f (forF_sub l _ f hf)
    have hcon : Conn (forest l) a b := (rep_conn _ _ _).1 (by rw [forest_rep]; exact hsm.2)
    obtain ⟨F0, hF0⟩ : ∃ F0, F0 = forest l := ⟨_, rfl⟩
    refine TL.val rfl rfl rfl (gives_boolnot rfl rfl) ?_
    refine TL.end_ ?_
    refine TX.then_ ?_
    refine TC.condF rfl ?_
    refine TC.skip_ ?_
    refine TX.then_ ?_
    refine TC.seq_ ?_
    refine TC.region ?_
    refine TL.mkmap rfl rfl rfl rfl (fun gm hgm => ?_)
    refine TL.pnew rfl rfl rfl (exec_alloc (cs := [.map none]) rfl uexzv63 rfl) (fun g8 => ?_)
    refine TL.pstore (k := 0) (vs := [.map (some gm)]) rfl rfl rfl rfl rfl rfl rfl uexsz63 (by intro u hu; rw [List.mem_singleton] at hu; subst hu; rfl) (by show 1 ≤ 1; decide) (L' := [.blk g8 63 [.map (some gm)], .oth gm (.map #[] 0), .blk g5 35 [.int .u32 b]]) rfl ?_
    refine TL.end_ ?_
    refine TX.then_ ?_
    refine TC.seq_ ?_
    refine TC.seq_ ?_
    refine TC.region ?_
    refine TL.val rfl rfl rfl (gives_move rfl rfl) ?_
    refine TL.pcallRow (n := (forest l).length) (ys := fcs (forest l)) rfl rfl rfl rfl rfl Try.func12 uexnm12 uexbd12 (fun w1 hw => by have h9 := forest_any A0 _ c0 l w1 ((hr.below hw.bel).more hw.bel.size) rfl hok; rw [show forV l = forest l from if_pos hV] at h9; exact h9) (fun AF cF hF1 hF2 => ?_)
    refine TL.val rfl rfl rfl (gives_len rfl Try.underlying26 rfl) ?_
    refine TL.val rfl rfl rfl (gives_move rfl rfl) ?_
    refine TL.end_ ?_
    refine TX.then_ ?_
    refine TC.block ?_
    refine TC.loop_ (α := {y : Nat × Obj × List (Int × Sg Fc) // y.1 ≤ (forest l).length ∧ MapS y.2.1 y.2.2 (incF (F0.take y.1))}) (fun y => [(1, .int .u32 a), (5, .pointer (some ⟨g5, 0, none⟩)), (8, .pointer (some ⟨g8, 0, none⟩)), (21, .slice AF ((forest l).length) cF), (22, .int .i64 (((forest l).length : Nat) : Int)), (23, .int .i64 ((y.1.1 : Nat) : Int))]) (fun y => Pm w ([.blk g5 35 [.int .u32 b], .blk g8 63 [.map (some gm)], .oth gm y.1.2.1, .row (.slice AF ((forest l).length) cF) 42 3 ((forest l).length) (fcs (forest l))] ++ segG 42 3 fcs (y.1.2.2.map (·.2)))) (fun y => (forest l).length - y.1.1) (⟨(0, .map #[] 0, []), Nat.zero_le _, mapS_nil⟩) ⟨rfl, rfl, rfl, rfl, rfl, rfl, trivial⟩ (fun w1 hw => hw.pick [3, 1, 2, 0] (by decide) rfl) ?_
    rintro ⟨⟨i, ob, ps⟩, hi, hS⟩
    dsimp only at hi hS ⊢
    refine TC.seq_ ?_
    refine TC.region ?_
    refine TL.vsplit rfl rfl rfl (gives_bin rfl rfl rfl (fun w => bin_lss w)) (fun h24 => ?_) (fun h24 => ?_)
    · have q24 := of_decide_eq_true h24
      have hi2 : i < (forest l).length := by omega
      obtain ⟨x, hx⟩ : ∃ x, (forest l)[i]? = some x := ⟨_, List.getElem?_eq_getElem hi2⟩
      have hxo := hokf x (List.mem_of_getElem? hx)
      have har2 : 0 ≤ x.a ∧ x.a ≤ 4294967295 := ⟨hxo.1, hxo.2.1⟩
      have hbr2 : 0 ≤ x.b ∧ x.b ≤ 4294967295 := ⟨hxo.2.2.1, hxo.2.2.2⟩
      have htk : F0.take (i + 1) = F0.take i ++ [x] := by rw [List.take_add_one, hF0, hx]; rfl
      have hne := hfrs.ne x (List.mem_of_getElem? hx)
      have hF0l : F0.length = (forest l).length := by rw [hF0]
      have hlen : ∀ z, (incF (F0.take i) z).length ≤ 1024 := fun z => by have := incF_len (F0.take i) z; rw [List.length_take] at this; omega
      refine TL.fact (p := ∃ gF, AF = some ⟨gF, 0, none⟩) (fun w1 hw => rowA hw (k := 3) rfl (by omega)) ?_
      rintro ⟨gF, rfl⟩
      refine TL.end_ ?_
      refine TX.then_ ?_
      refine TC.seq_ ?_
      refine TC.condT rfl ?_
      refine TC.skip_ ?_
      refine TX.then_ ?_
      refine TC.seq_ ?_
      refine TC.block ?_
      refine TC.seq_ ?_
      refine TC.region ?_
      refine TL.val rfl rfl rfl (gives_at (v := .pointer (some ⟨gF, 0 + i * 3, none⟩)) rfl rfl rfl (fun w => at_el Try.underlying26 uexsz42 rfl _ _ i hi2 rfl w)) ?_
      refine TL.val rfl rfl rfl (gives_loadR (off := 0 + i * 3) rfl rfl uexag42 uexsz42 (fc_cells_len x) (fun w1 hw q u hu => fc_row hw (k := 3) rfl hx q u hu)) ?_
      refine TL.pnew rfl rfl rfl (exec_alloc (cs := [.int .i64 0, .int .u32 0, .int .u32 0]) rfl uexzv42 rfl) (fun g10 => ?_)
      refine TL.pstore (k := 0) (vs := x.cells) rfl rfl rfl rfl rfl rfl rfl uexsz42 (fc_one x) (by show 3 ≤ 3; decide) (L' := ([.blk g10 42 x.cells, .blk g5 35 [.int .u32 b], .blk g8 63 [.map (some gm)], .oth gm ob, .row (.slice (some ⟨gF, 0, none⟩) ((forest l).length) cF) 42 3 ((forest l).length) (fcs (forest l))] ++ segG 42 3 fcs (ps.map (·.2)))) rfl ?_
      refine TL.end_ ?_
      refine TX.then_ ?_
      refine TC.join (α := {y : Obj × List (Int × Sg Fc) // MapS y.1 y.2 (addS (incF (F0.take i)) x.a x)}) (fun y => [(1, .int .u32 a), (5, .pointer (some ⟨g5, 0, none⟩)), (8, .pointer (some ⟨g8, 0, none⟩)), (21, .slice (some ⟨gF, 0, none⟩) ((forest l).length) cF), (22, .int .i64 (((forest l).length : Nat) : Int)), (23, .int .i64 ((i : Nat) : Int)), (10, .pointer (some ⟨g10, 0, none⟩))]) (fun y => Pm w ([.blk g10 42 x.cells, .blk g5 35 [.int .u32 b], .blk g8 63 [.map (some gm)], .oth gm y.1.1, .row (.slice (some ⟨gF, 0, none⟩) ((forest l).length) cF) 42 3 ((forest l).length) (fcs (forest l))] ++ segG 42 3 fcs (y.1.2.map (·.2)))) ?_ ?_
      · obtain ⟨fm, hmg, hfm⟩ := hS.map
        rcases hfi : ps.find? (fun p => decide (p.1 = x.a)) with _ | pk
        · have hway := 0
          refine TC.held (ls := #[false, false, false, false, false, false, false, false, false, false, false]) (Pm w [.blk g8 63 [.map (some gm)], .blk g10 42 x.cells]) (by kernel_rfl) rfl rfl (fun w hw => hw.drawn _) ?_
          refine TH.take (listed' := #[true, false, false, false, false, false, false, false, false, false, false]) 0 rfl (by kernel_rfl) (by kernel_rfl) (by kernel_rfl) rfl rfl rfl rfl (pm_load (k := 0) (i := 0) rfl rfl uexag63 rfl rfl) (fun w1 hw => hw.pick [2, 0] (by decide) rfl) ?_
          refine TH.take (listed' := #[true, true, false, false, false, false, false, false, false, false, false]) 1 rfl (by kernel_rfl) (by kernel_rfl) (by kernel_rfl) rfl rfl rfl rfl (gives_field (v := .pointer (some ⟨g10, 1, none⟩)) rfl rfl (fun w => uexfld42_1 _ _ w)) (fun w1 hw => hw.pick [2, 0] (by decide) rfl) ?_
          refine TH.take (listed' := #[true, true, true, false, false, false, false, false, false, false, false]) 2 rfl (by kernel_rfl) (by kernel_rfl) (by kernel_rfl) rfl rfl rfl rfl (pm_load (k := 1) (i := 1) rfl rfl uexag35 rfl rfl) (fun w1 hw => hw.pick [2, 0] (by decide) rfl) ?_
          refine TH.take (listed' := #[true, true, true, true, false, false, false, false, false, false, false]) 3 rfl (by kernel_rfl) (by kernel_rfl) (by kernel_rfl) rfl rfl rfl rfl (pm_load (k := 0) (i := 0) rfl rfl uexag63 rfl rfl) (fun w1 hw => hw.pick [2, 0] (by decide) rfl) ?_
          refine TH.take (listed' := #[true, true, true, true, true, false, false, false, false, false, false]) 4 rfl (by kernel_rfl) (by kernel_rfl) (by kernel_rfl) rfl rfl rfl rfl (gives_field (v := .pointer (some ⟨g10, 1, none⟩)) rfl rfl (fun w => uexfld42_1 _ _ w)) (fun w1 hw => hw.pick [2, 0] (by decide) rfl) ?_
          refine TH.take (listed' := #[true, true, true, true, true, true, false, false, false, false, false]) 5 rfl (by kernel_rfl) (by kernel_rfl) (by kernel_rfl) rfl rfl rfl rfl (pm_load (k := 1) (i := 1) rfl rfl uexag35 rfl rfl) (fun w1 hw => hw.pick [2, 0] (by decide) rfl) ?_
          refine TH.take (listed' := #[true, true, true, true, true, true, false, true, false, false, false]) 7 rfl (by kernel_rfl) (by kernel_rfl) (by kernel_rfl) rfl rfl rfl rfl (pm_loadV (k := 1) (i := 0) (n := 3) (v := .agg (x.cells).toArray) rfl rfl uexag42 uexsz42 rfl (by show 3 ≤ 3; decide) rfl) (fun w1 hw => hw.pick [2, 0] (by decide) rfl) ?_
          refine TH.two' (listed1 := #[true, true, true, true, true, true, true, true, false, false, false]) (listed2 := #[true, true, true, true, true, true, false, true, true, false, false]) 6 8 rfl rfl (by kernel_rfl) rfl rfl ?_ ?_
          · refine TL.val rfl rfl rfl (gives_lookG (i := 3) (v := .slice none 0 0) rfl rfl rfl (mkey_int Try.underlying35) Try.underlying63 uexzv26 rfl hmg (wf32 har2) (by rw [hfm, hfi]; try rfl)) ?_
            refine TL.end_ ?_
            refine TX.held (fun w1 hw => hw.pick [2, 0] (by decide) rfl) ?_
            refine TH.only' (listed' := #[true, true, true, true, true, true, true, true, true, false, false]) 8 rfl (by kernel_rfl) rfl ?_
            refine TL.prowS (e := 42) (size := 3) (cs := fcs [x]) rfl rfl rfl rfl rfl (fun w => uexbs26_1_44646 _ _ _ w) (by decide) rfl (fun g35 => ?_)
            refine TL.end_ ?_
            refine TX.held (fun w1 hw => hw.pick [3, 1] (by decide) rfl) ?_
            refine TH.only' (listed' := #[true, true, true, true, true, true, true, true, true, true, false]) 9 rfl (by kernel_rfl) rfl ?_
            refine TL.nilrow 42 3 ?_
            refine TL.appendT (k := 0) rfl rfl rfl rfl Try.underlying26 uexel26 rfl rfl rfl (fun w1 hw => pm_reads hw (k := 1) rfl) (fcs_one _) (by decide) ([x].length) (rfl) (fcs [x]) (rfl) (fun A36 c36 hA361 hA362 => ?_)
            refine TL.end_ ?_
            refine TX.held (fun w1 hw => hw.pick [4, 2] (by decide) rfl) ?_
            refine TH.only' (listed' := #[true, true, true, true, true, true, true, true, true, true, true]) 10 rfl (by kernel_rfl) rfl ?_
            refine TL.mapsetG (i := 5) rfl rfl rfl rfl rfl rfl (mkey_int Try.underlying35) Try.underlying63 rfl hgm hmg (wf32 har2) (fun ob7 hmg2 => ?_)
            try dsimp only [List.set_cons_zero, List.set_cons_succ]
            refine TL.end_ ?_
            refine TX.held (fun w1 hw => hw.pick [4, 2] (by decide) rfl) ?_
            refine TH.done (by kernel_rfl) ?_
            exact TX.joined (⟨(ob7, ps ++ [(x.a, ⟨A36, c36, [x]⟩)]), hS.new hfi hfm hmg2⟩) (⟨rfl, rfl, rfl, rfl, rfl, rfl, rfl, trivial⟩) (fun w1 hw => (by rw [List.map_append]; exact Pm.segPush (s := ⟨A36, c36, [x]⟩) (P := _) (Pm.sel hw (.cons_cons _ (.cons _ (List.Sublist.refl _))))))
          · refine TL.prowS (e := 42) (size := 3) (cs := fcs [x]) rfl rfl rfl rfl rfl (fun w => uexbs26_1_44646 _ _ _ w) (by decide) rfl (fun g35 => ?_)
            refine TL.end_ ?_
            refine TX.held (fun w1 hw => hw.pick [3, 1] (by decide) rfl) ?_
            refine TH.only' (listed' := #[true, true, true, true, true, true, true, true, true, false, false]) 6 rfl (by kernel_rfl) rfl ?_
            refine TL.val rfl rfl rfl (gives_lookG (i := 4) (v := .slice none 0 0) rfl rfl rfl (mkey_int Try.underlying35) Try.underlying63 uexzv26 rfl hmg (wf32 har2) (by rw [hfm, hfi]; try rfl)) ?_
            refine TL.end_ ?_
            refine TX.held (fun w1 hw => hw.pick [3, 1] (by decide) rfl) ?_
            refine TH.only' (listed' := #[true, true, true, true, true, true, true, true, true, true, false]) 9 rfl (by kernel_rfl) rfl ?_
            refine TL.nilrow 42 3 ?_
            refine TL.appendT (k := 0) rfl rfl rfl rfl Try.underlying26 uexel26 rfl rfl rfl (fun w1 hw => pm_reads hw (k := 1) rfl) (fcs_one _) (by decide) ([x].length) (rfl) (fcs [x]) (rfl) (fun A36 c36 hA361 hA362 => ?_)
            refine TL.end_ ?_
            refine TX.held (fun w1 hw => hw.pick [4, 2] (by decide) rfl) ?_
            refine TH.only' (listed' := #[true, true, true, true, true, true, true, true, true, true, true]) 10 rfl (by kernel_rfl) rfl ?_
            refine TL.mapsetG (i := 5) rfl rfl rfl rfl rfl rfl (mkey_int Try.underlying35) Try.underlying63 rfl hgm hmg (wf32 har2) (fun ob7 hmg2 => ?_)
            try dsimp only [List.set_cons_zero, List.set_cons_succ]
            refine TL.end_ ?_
            refine TX.held (fun w1 hw => hw.pick [4, 2] (by decide) rfl) ?_
            refine TH.done (by kernel_rfl) ?_
            exact TX.joined (⟨(ob7, ps ++ [(x.a, ⟨A36, c36, [x]⟩)]), hS.new hfi hfm hmg2⟩) (⟨rfl, rfl, rfl, rfl, rfl, rfl, rfl, trivial⟩) (fun w1 hw => (by rw [List.map_append]; exact Pm.segPush (s := ⟨A36, c36, [x]⟩) (P := _) (Pm.sel hw (.cons_cons _ (.cons _ (List.Sublist.refl _))))))
        · obtain ⟨k, s, hks, rfl⟩ := find_at hfi
          have hsl : s.l.length ≤ 1100 := by have h8 := hS.sp x.a; rw [getS_of hfi] at h8; have := congrArg List.length h8; rw [this]; exact Nat.le_trans (hlen _) (by omega)
          refine TC.mem (fun w1 hw => Pm.segOut (P := _) hw (map_at hks)) ?_
          refine TC.held (ls := #[false, false, false, false, false, false, false, false, false, false, false]) (Pm w [.blk g8 63 [.map (some gm)], .blk g10 42 x.cells]) (by kernel_rfl) rfl rfl (fun w hw => hw.drawn _) ?_
          refine TH.take (listed' := #[true, false, false, false, false, false, false, false, false, false, false]) 0 rfl (by kernel_rfl) (by kernel_rfl) (by kernel_rfl) rfl rfl rfl rfl (pm_load (k := 0) (i := 0) rfl rfl uexag63 rfl rfl) (fun w1 hw => hw.pick [3, 1] (by decide) rfl) ?_
          refine TH.take (listed' := #[true, true, false, false, false, false, false, false, false, false, false]) 1 rfl (by kernel_rfl) (by kernel_rfl) (by kernel_rfl) rfl rfl rfl rfl (gives_field (v := .pointer (some ⟨g10, 1, none⟩)) rfl rfl (fun w => uexfld42_1 _ _ w)) (fun w1 hw => hw.pick [3, 1] (by decide) rfl) ?_
          refine TH.take (listed' := #[true, true, true, false, false, false, false, false, false, false, false]) 2 rfl (by kernel_rfl) (by kernel_rfl) (by kernel_rfl) rfl rfl rfl rfl (pm_load (k := 1) (i := 1) rfl rfl uexag35 rfl rfl) (fun w1 hw => hw.pick [3, 1] (by decide) rfl) ?_
          refine TH.take (listed' := #[true, true, true, true, false, false, false, false, false, false, false]) 3 rfl (by kernel_rfl) (by kernel_rfl) (by kernel_rfl) rfl rfl rfl rfl (pm_load (k := 0) (i := 0) rfl rfl uexag63 rfl rfl) (fun w1 hw => hw.pick [3, 1] (by decide) rfl) ?_
          refine TH.take (listed' := #[true, true, true, true, true, false, false, false, false, false, false]) 4 rfl (by kernel_rfl) (by kernel_rfl) (by kernel_rfl) rfl rfl rfl rfl (gives_field (v := .pointer (some ⟨g10, 1, none⟩)) rfl rfl (fun w => uexfld42_1 _ _ w)) (fun w1 hw => hw.pick [3, 1] (by decide) rfl) ?_
          refine TH.take (listed' := #[true, true, true, true, true, true, false, false, false, false, false]) 5 rfl (by kernel_rfl) (by kernel_rfl) (by kernel_rfl) rfl rfl rfl rfl (pm_load (k := 1) (i := 1) rfl rfl uexag35 rfl rfl) (fun w1 hw => hw.pick [3, 1] (by decide) rfl) ?_
          refine TH.take (listed' := #[true, true, true, true, true, true, false, true, false, false, false]) 7 rfl (by kernel_rfl) (by kernel_rfl) (by kernel_rfl) rfl rfl rfl rfl (pm_loadV (k := 1) (i := 0) (n := 3) (v := .agg (x.cells).toArray) rfl rfl uexag42 uexsz42 rfl (by show 3 ≤ 3; decide) rfl) (fun w1 hw => hw.pick [3, 1] (by decide) rfl) ?_
          refine TH.two' (listed1 := #[true, true, true, true, true, true, true, true, false, false, false]) (listed2 := #[true, true, true, true, true, true, false, true, true, false, false]) 6 8 rfl rfl (by kernel_rfl) rfl rfl ?_ ?_
          · refine TL.val rfl rfl rfl (gives_lookG (i := 4) (v := .slice s.A s.l.length s.c) rfl rfl rfl (mkey_int Try.underlying35) Try.underlying63 uexzv26 rfl hmg (wf32 har2) (by rw [hfm, hfi]; try rfl)) ?_
            refine TL.end_ ?_
            refine TX.held (fun w1 hw => hw.pick [3, 1] (by decide) rfl) ?_
            refine TH.only' (listed' := #[true, true, true, true, true, true, true, true, true, false, false]) 8 rfl (by kernel_rfl) rfl ?_
            refine TL.prowS (e := 42) (size := 3) (cs := fcs [x]) rfl rfl rfl rfl rfl (fun w => uexbs26_1_44646 _ _ _ w) (by decide) rfl (fun g35 => ?_)
            refine TL.end_ ?_
            refine TX.held (fun w1 hw => hw.pick [4, 2] (by decide) rfl) ?_
            refine TH.only' (listed' := #[true, true, true, true, true, true, true, true, true, true, false]) 9 rfl (by kernel_rfl) rfl ?_
            refine TL.appendT (k := 1) rfl rfl rfl rfl Try.underlying26 uexel26 rfl rfl rfl (fun w1 hw => pm_reads hw (k := 0) rfl) (fcs_one _) (by show _ * 16 ≤ _; omega) ((s.l ++ [x]).length) (by rw [List.length_append]; rfl) (fcs (s.l ++ [x])) (by rw [fcs_app]) (fun A36 c36 hA361 hA362 => ?_)
            refine TL.end_ ?_
            refine TX.held (fun w1 hw => hw.pick [4, 2] (by decide) rfl) ?_
            refine TH.only' (listed' := #[true, true, true, true, true, true, true, true, true, true, true]) 10 rfl (by kernel_rfl) rfl ?_
            refine TL.mapsetG (i := 5) rfl rfl rfl rfl rfl rfl (mkey_int Try.underlying35) Try.underlying63 rfl hgm hmg (wf32 har2) (fun ob7 hmg2 => ?_)
            try dsimp only [List.set_cons_zero, List.set_cons_succ]
            refine TL.end_ ?_
            refine TX.held (fun w1 hw => hw.pick [4, 2] (by decide) rfl) ?_
            refine TH.done (by kernel_rfl) ?_
            exact TX.joined (⟨(ob7, ps.set k (x.a, ⟨A36, c36, s.l ++ [x]⟩)), hS.old hfi hks hfm hmg2⟩) (⟨rfl, rfl, rfl, rfl, rfl, rfl, rfl, trivial⟩) (fun w1 hw => (by rw [List.map_set]; exact Pm.segIn (P := _) (s' := ⟨A36, c36, s.l ++ [x]⟩) hw.tail (by rw [List.length_map]; exact (List.getElem?_eq_some_iff.1 hks).1)))
          · refine TL.prowS (e := 42) (size := 3) (cs := fcs [x]) rfl rfl rfl rfl rfl (fun w => uexbs26_1_44646 _ _ _ w) (by decide) rfl (fun g35 => ?_)
            refine TL.end_ ?_
            refine TX.held (fun w1 hw => hw.pick [4, 2] (by decide) rfl) ?_
            refine TH.only' (listed' := #[true, true, true, true, true, true, true, true, true, false, false]) 6 rfl (by kernel_rfl) rfl ?_
            refine TL.val rfl rfl rfl (gives_lookG (i := 5) (v := .slice s.A s.l.length s.c) rfl rfl rfl (mkey_int Try.underlying35) Try.underlying63 uexzv26 rfl hmg (wf32 har2) (by rw [hfm, hfi]; try rfl)) ?_
            refine TL.end_ ?_
            refine TX.held (fun w1 hw => hw.pick [4, 2] (by decide) rfl) ?_
            refine TH.only' (listed' := #[true, true, true, true, true, true, true, true, true, true, false]) 9 rfl (by kernel_rfl) rfl ?_
            refine TL.appendT (k := 1) rfl rfl rfl rfl Try.underlying26 uexel26 rfl rfl rfl (fun w1 hw => pm_reads hw (k := 0) rfl) (fcs_one _) (by show _ * 16 ≤ _; omega) ((s.l ++ [x]).length) (by rw [List.length_append]; rfl) (fcs (s.l ++ [x])) (by rw [fcs_app]) (fun A36 c36 hA361 hA362 => ?_)
            refine TL.end_ ?_
            refine TX.held (fun w1 hw => hw.pick [4, 2] (by decide) rfl) ?_
            refine TH.only' (listed' := #[true, true, true, true, true, true, true, true, true, true, true]) 10 rfl (by kernel_rfl) rfl ?_
            refine TL.mapsetG (i := 5) rfl rfl rfl rfl rfl rfl (mkey_int Try.underlying35) Try.underlying63 rfl hgm hmg (wf32 har2) (fun ob7 hmg2 => ?_)
            try dsimp only [List.set_cons_zero, List.set_cons_succ]
            refine TL.end_ ?_
            refine TX.held (fun w1 hw => hw.pick [4, 2] (by decide) rfl) ?_
            refine TH.done (by kernel_rfl) ?_
            exact TX.joined (⟨(ob7, ps.set k (x.a, ⟨A36, c36, s.l ++ [x]⟩)), hS.old hfi hks hfm hmg2⟩) (⟨rfl, rfl, rfl, rfl, rfl, rfl, rfl, trivial⟩) (fun w1 hw => (by rw [List.map_set]; exact Pm.segIn (P := _) (s' := ⟨A36, c36, s.l ++ [x]⟩) hw.tail (by rw [List.length_map]; exact (List.getElem?_eq_some_iff.1 hks).1)))
      · rintro ⟨⟨ob1, ps1⟩, hS1⟩
        dsimp only at hS1 ⊢
        clear hS
        have hS := hS1
        have hlen2 : ∀ z, (addS (incF (F0.take i)) x.a x z).length ≤ 1100 := fun z => by unfold addS; split <;> (try rw [List.length_append]) <;> (have := hlen z; have := hlen x.a; try simp only [List.length_cons, List.length_nil]) <;> omega
        obtain ⟨fm, hmg, hfm⟩ := hS.map
        rcases hfi : ps1.find? (fun p => decide (p.1 = x.b)) with _ | pk
        · have hway := 0
          refine TC.held (ls := #[false, false, false, false, false, false, false, false, false, false, false]) (Pm w [.blk g8 63 [.map (some gm)], .blk g10 42 x.cells]) (by kernel_rfl) rfl rfl (fun w hw => hw.drawn _) ?_
          refine TH.take (listed' := #[true, false, false, false, false, false, false, false, false, false, false]) 0 rfl (by kernel_rfl) (by kernel_rfl) (by kernel_rfl) rfl rfl rfl rfl (pm_load (k := 0) (i := 0) rfl rfl uexag63 rfl rfl) (fun w1 hw => hw.pick [2, 0] (by decide) rfl) ?_
          refine TH.take (listed' := #[true, true, false, false, false, false, false, false, false, false, false]) 1 rfl (by kernel_rfl) (by kernel_rfl) (by kernel_rfl) rfl rfl rfl rfl (gives_field (v := .pointer (some ⟨g10, 2, none⟩)) rfl rfl (fun w => uexfld42_2 _ _ w)) (fun w1 hw => hw.pick [2, 0] (by decide) rfl) ?_
          refine TH.take (listed' := #[true, true, true, false, false, false, false, false, false, false, false]) 2 rfl (by kernel_rfl) (by kernel_rfl) (by kernel_rfl) rfl rfl rfl rfl (pm_load (k := 1) (i := 2) rfl rfl uexag35 rfl rfl) (fun w1 hw => hw.pick [2, 0] (by decide) rfl) ?_
          refine TH.take (listed' := #[true, true, true, true, false, false, false, false, false, false, false]) 3 rfl (by kernel_rfl) (by kernel_rfl) (by kernel_rfl) rfl rfl rfl rfl (pm_load (k := 0) (i := 0) rfl rfl uexag63 rfl rfl) (fun w1 hw => hw.pick [2, 0] (by decide) rfl) ?_
          refine TH.take (listed' := #[true, true, true, true, true, false, false, false, false, false, false]) 4 rfl (by kernel_rfl) (by kernel_rfl) (by kernel_rfl) rfl rfl rfl rfl (gives_field (v := .pointer (some ⟨g10, 2, none⟩)) rfl rfl (fun w => uexfld42_2 _ _ w)) (fun w1 hw => hw.pick [2, 0] (by decide) rfl) ?_
          refine TH.take (listed' := #[true, true, true, true, true, true, false, false, false, false, false]) 5 rfl (by kernel_rfl) (by kernel_rfl) (by kernel_rfl) rfl rfl rfl rfl (pm_load (k := 1) (i := 2) rfl rfl uexag35 rfl rfl) (fun w1 hw => hw.pick [2, 0] (by decide) rfl) ?_
          refine TH.take (listed' := #[true, true, true, true, true, true, false, true, false, false, false]) 7 rfl (by kernel_rfl) (by kernel_rfl) (by kernel_rfl) rfl rfl rfl rfl (pm_loadV (k := 1) (i := 0) (n := 3) (v := .agg (x.cells).toArray) rfl rfl uexag42 uexsz42 rfl (by show 3 ≤ 3; decide) rfl) (fun w1 hw => hw.pick [2, 0] (by decide) rfl) ?_
          refine TH.two' (listed1 := #[true, true, true, true, true, true, true, true, false, false, false]) (listed2 := #[true, true, true, true, true, true, false, true, true, false, false]) 6 8 rfl rfl (by kernel_rfl) rfl rfl ?_ ?_
          · refine TL.val rfl rfl rfl (gives_lookG (i := 3) (v := .slice none 0 0) rfl rfl rfl (mkey_int Try.underlying35) Try.underlying63 uexzv26 rfl hmg (wf32 hbr2) (by rw [hfm, hfi]; try rfl)) ?_
            refine TL.end_ ?_
            refine TX.held (fun w1 hw => hw.pick [2, 0] (by decide) rfl) ?_
            refine TH.only' (listed' := #[true, true, true, true, true, true, true, true, true, false, false]) 8 rfl (by kernel_rfl) rfl ?_
            refine TL.prowS (e := 42) (size := 3) (cs := fcs [x]) rfl rfl rfl rfl rfl (fun w => uexbs26_1_44646 _ _ _ w) (by decide) rfl (fun g45 => ?_)
            refine TL.end_ ?_
            refine TX.held (fun w1 hw => hw.pick [3, 1] (by decide) rfl) ?_
            refine TH.only' (listed' := #[true, true, true, true, true, true, true, true, true, true, false]) 9 rfl (by kernel_rfl) rfl ?_
            refine TL.nilrow 42 3 ?_
            refine TL.appendT (k := 0) rfl rfl rfl rfl Try.underlying26 uexel26 rfl rfl rfl (fun w1 hw => pm_reads hw (k := 1) rfl) (fcs_one _) (by decide) ([x].length) (rfl) (fcs [x]) (rfl) (fun A46 c46 hA461 hA462 => ?_)
            refine TL.end_ ?_
            refine TX.held (fun w1 hw => hw.pick [4, 2] (by decide) rfl) ?_
            refine TH.only' (listed' := #[true, true, true, true, true, true, true, true, true, true, true]) 10 rfl (by kernel_rfl) rfl ?_
            refine TL.mapsetG (i := 5) rfl rfl rfl rfl rfl rfl (mkey_int Try.underlying35) Try.underlying63 rfl hgm hmg (wf32 hbr2) (fun ob8 hmg2 => ?_)
            try dsimp only [List.set_cons_zero, List.set_cons_succ]
            refine TL.end_ ?_
            refine TX.held (fun w1 hw => hw.pick [4, 2] (by decide) rfl) ?_
            refine TH.done (by kernel_rfl) ?_
            refine TX.in_normal ?_
            refine TX.then_ ?_
            refine TC.region ?_
            refine TL.val rfl rfl rfl (gives_bin rfl rfl rfl (fun w => bin_add_ (r := ((i + 1 : Nat) : Int)) (by simp only [IntKind.wrap_i64]; omega) w)) ?_
            refine TL.val rfl rfl rfl (gives_move rfl rfl) ?_
            refine TL.end_ ?_
            exact TX.round (⟨(i + 1, ob8, (ps1 ++ [(x.b, ⟨A46, c46, [x]⟩)])), hi2, by have h9 := hS.new hfi hfm hmg2; rw [inc_step hne, ← htk] at h9; exact h9⟩) (by show (forest l).length - (i + 1) < (forest l).length - i; omega) ⟨rfl, rfl, rfl, rfl, rfl, rfl, trivial⟩ (fun w1 hw => (by dsimp only; rw [List.map_append]; exact Pm.segPush (s := ⟨A46, c46, [x]⟩) (P := _) (Pm.sel hw (.cons_cons _ (.cons _ (.cons _ (List.Sublist.refl _)))))))
          · refine TL.prowS (e := 42) (size := 3) (cs := fcs [x]) rfl rfl rfl rfl rfl (fun w => uexbs26_1_44646 _ _ _ w) (by decide) rfl (fun g45 => ?_)
            refine TL.end_ ?_
            refine TX.held (fun w1 hw => hw.pick [3, 1] (by decide) rfl) ?_
            refine TH.only' (listed' := #[true, true, true, true, true, true, true, true, true, false, false]) 6 rfl (by kernel_rfl) rfl ?_
            refine TL.val rfl rfl rfl (gives_lookG (i := 4) (v := .slice none 0 0) rfl rfl rfl (mkey_int Try.underlying35) Try.underlying63 uexzv26 rfl hmg (wf32 hbr2) (by rw [hfm, hfi]; try rfl)) ?_
            refine TL.end_ ?_
            refine TX.held (fun w1 hw => hw.pick [3, 1] (by decide) rfl) ?_
            refine TH.only' (listed' := #[true, true, true, true, true, true, true, true, true, true, false]) 9 rfl (by kernel_rfl) rfl ?_
            refine TL.nilrow 42 3 ?_
            refine TL.appendT (k := 0) rfl rfl rfl rfl Try.underlying26 uexel26 rfl rfl rfl (fun w1 hw => pm_reads hw (k := 1) rfl) (fcs_one _) (by decide) ([x].length) (rfl) (fcs [x]) (rfl) (fun A46 c46 hA461 hA462 => ?_)
            refine TL.end_ ?_
            refine TX.held (fun w1 hw => hw.pick [4, 2] (by decide) rfl) ?_
            refine TH.only' (listed' := #[true, true, true, true, true, true, true, true, true, true, true]) 10 rfl (by kernel_rfl) rfl ?_
            refine TL.mapsetG (i := 5) rfl rfl rfl rfl rfl rfl (mkey_int Try.underlying35) Try.underlying63 rfl hgm hmg (wf32 hbr2) (fun ob8 hmg2 => ?_)
            try dsimp only [List.set_cons_zero, List.set_cons_succ]
            refine TL.end_ ?_
            refine TX.held (fun w1 hw => hw.pick [4, 2] (by decide) rfl) ?_
            refine TH.done (by kernel_rfl) ?_
            refine TX.in_normal ?_
            refine TX.then_ ?_
            refine TC.region ?_
            refine TL.val rfl rfl rfl (gives_bin rfl rfl rfl (fun w => bin_add_ (r := ((i + 1 : Nat) : Int)) (by simp only [IntKind.wrap_i64]; omega) w)) ?_
            refine TL.val rfl rfl rfl (gives_move rfl rfl) ?_
            refine TL.end_ ?_
            exact TX.round (⟨(i + 1, ob8, (ps1 ++ [(x.b, ⟨A46, c46, [x]⟩)])), hi2, by have h9 := hS.new hfi hfm hmg2; rw [inc_step hne, ← htk] at h9; exact h9⟩) (by show (forest l).length - (i + 1) < (forest l).length - i; omega) ⟨rfl, rfl, rfl, rfl, rfl, rfl, trivial⟩ (fun w1 hw => (by dsimp only; rw [List.map_append]; exact Pm.segPush (s := ⟨A46, c46, [x]⟩) (P := _) (Pm.sel hw (.cons_cons _ (.cons _ (.cons _ (List.Sublist.refl _)))))))
        · obtain ⟨k, s, hks, rfl⟩ := find_at hfi
          have hsl : s.l.length ≤ 1100 := by have h8 := hS.sp x.b; rw [getS_of hfi] at h8; have := congrArg List.length h8; rw [this]; exact hlen2 _
          refine TC.mem (fun w1 hw => Pm.segOut (P := _) hw (map_at hks)) ?_
          refine TC.held (ls := #[false, false, false, false, false, false, false, false, false, false, false]) (Pm w [.blk g8 63 [.map (some gm)], .blk g10 42 x.cells]) (by kernel_rfl) rfl rfl (fun w hw => hw.drawn _) ?_
          refine TH.take (listed' := #[true, false, false, false, false, false, false, false, false, false, false]) 0 rfl (by kernel_rfl) (by kernel_rfl) (by kernel_rfl) rfl rfl rfl rfl (pm_load (k := 0) (i := 0) rfl rfl uexag63 rfl rfl) (fun w1 hw => hw.pick [3, 1] (by decide) rfl) ?_
          refine TH.take (listed' := #[true, true, false, false, false, false, false, false, false, false, false]) 1 rfl (by kernel_rfl) (by kernel_rfl) (by kernel_rfl) rfl rfl rfl rfl (gives_field (v := .pointer (some ⟨g10, 2, none⟩)) rfl rfl (fun w => uexfld42_2 _ _ w)) (fun w1 hw => hw.pick [3, 1] (by decide) rfl) ?_
          refine TH.take (listed' := #[true, true, true, false, false, false, false, false, false, false, false]) 2 rfl (by kernel_rfl) (by kernel_rfl) (by kernel_rfl) rfl rfl rfl rfl (pm_load (k := 1) (i := 2) rfl rfl uexag35 rfl rfl) (fun w1 hw => hw.pick [3, 1] (by decide) rfl) ?_
          refine TH.take (listed' := #[true, true, true, true, false, false, false, false, false, false, false]) 3 rfl (by kernel_rfl) (by kernel_rfl) (by kernel_rfl) rfl rfl rfl rfl (pm_load (k := 0) (i := 0) rfl rfl uexag63 rfl rfl) (fun w1 hw => hw.pick [3, 1] (by decide) rfl) ?_
          refine TH.take (listed' := #[true, true, true, true, true, false, false, false, false, false, false]) 4 rfl (by kernel_rfl) (by kernel_rfl) (by kernel_rfl) rfl rfl rfl rfl (gives_field (v := .pointer (some ⟨g10, 2, none⟩)) rfl rfl (fun w => uexfld42_2 _ _ w)) (fun w1 hw => hw.pick [3, 1] (by decide) rfl) ?_
          refine TH.take (listed' := #[true, true, true, true, true, true, false, false, false, false, false]) 5 rfl (by kernel_rfl) (by kernel_rfl) (by kernel_rfl) rfl rfl rfl rfl (pm_load (k := 1) (i := 2) rfl rfl uexag35 rfl rfl) (fun w1 hw => hw.pick [3, 1] (by decide) rfl) ?_
          refine TH.take (listed' := #[true, true, true, true, true, true, false, true, false, false, false]) 7 rfl (by kernel_rfl) (by kernel_rfl) (by kernel_rfl) rfl rfl rfl rfl (pm_loadV (k := 1) (i := 0) (n := 3) (v := .agg (x.cells).toArray) rfl rfl uexag42 uexsz42 rfl (by show 3 ≤ 3; decide) rfl) (fun w1 hw => hw.pick [3, 1] (by decide) rfl) ?_
          refine TH.two' (listed1 := #[true, true, true, true, true, true, true, true, false, false, false]) (listed2 := #[true, true, true, true, true, true, false, true, true, false, false]) 6 8 rfl rfl (by kernel_rfl) rfl rfl ?_ ?_
          · refine TL.val rfl rfl rfl (gives_lookG (i := 4) (v := .slice s.A s.l.length s.c) rfl rfl rfl (mkey_int Try.underlying35) Try.underlying63 uexzv26 rfl hmg (wf32 hbr2) (by rw [hfm, hfi]; try rfl)) ?_
            refine TL.end_ ?_
            refine TX.held (fun w1 hw => hw.pick [3, 1] (by decide) rfl) ?_
            refine TH.only' (listed' := #[true, true, true, true, true, true, true, true, true, false, false]) 8 rfl (by kernel_rfl) rfl ?_
            refine TL.prowS (e := 42) (size := 3) (cs := fcs [x]) rfl rfl rfl rfl rfl (fun w => uexbs26_1_44646 _ _ _ w) (by decide) rfl (fun g45 => ?_)
            refine TL.end_ ?_
            refine TX.held (fun w1 hw => hw.pick [4, 2] (by decide) rfl) ?_
            refine TH.only' (listed' := #[true, true, true, true, true, true, true, true, true, true, false]) 9 rfl (by kernel_rfl) rfl ?_
            refine TL.appendT (k := 1) rfl rfl rfl rfl Try.underlying26 uexel26 rfl rfl rfl (fun w1 hw => pm_reads hw (k := 0) rfl) (fcs_one _) (by show _ * 16 ≤ _; omega) ((s.l ++ [x]).length) (by rw [List.length_append]; rfl) (fcs (s.l ++ [x])) (by rw [fcs_app]) (fun A46 c46 hA461 hA462 => ?_)
            refine TL.end_ ?_
            refine TX.held (fun w1 hw => hw.pick [4, 2] (by decide) rfl) ?_
            refine TH.only' (listed' := #[true, true, true, true, true, true, true, true, true, true, true]) 10 rfl (by kernel_rfl) rfl ?_
            refine TL.mapsetG (i := 5) rfl rfl rfl rfl rfl rfl (mkey_int Try.underlying35) Try.underlying63 rfl hgm hmg (wf32 hbr2) (fun ob8 hmg2 => ?_)
            try dsimp only [List.set_cons_zero, List.set_cons_succ]
            refine TL.end_ ?_
            refine TX.held (fun w1 hw => hw.pick [4, 2] (by decide) rfl) ?_
            refine TH.done (by kernel_rfl) ?_
            refine TX.in_normal ?_
            refine TX.then_ ?_
            refine TC.region ?_
            refine TL.val rfl rfl rfl (gives_bin rfl rfl rfl (fun w => bin_add_ (r := ((i + 1 : Nat) : Int)) (by simp only [IntKind.wrap_i64]; omega) w)) ?_
            refine TL.val rfl rfl rfl (gives_move rfl rfl) ?_
            refine TL.end_ ?_
            exact TX.round (⟨(i + 1, ob8, (ps1.set k (x.b, ⟨A46, c46, s.l ++ [x]⟩))), hi2, by have h9 := hS.old hfi hks hfm hmg2; rw [inc_step hne, ← htk] at h9; exact h9⟩) (by show (forest l).length - (i + 1) < (forest l).length - i; omega) ⟨rfl, rfl, rfl, rfl, rfl, rfl, trivial⟩ (fun w1 hw => (by dsimp only; rw [List.map_set]; exact Pm.segIn (P := _) (s' := ⟨A46, c46, s.l ++ [x]⟩) (Pm.sel hw (.cons _ (.cons_cons _ (.cons _ (List.Sublist.refl _))))) (by rw [List.length_map]; exact (List.getElem?_eq_some_iff.1 hks).1)))
          · refine TL.prowS (e := 42) (size := 3) (cs := fcs [x]) rfl rfl rfl rfl rfl (fun w => uexbs26_1_44646 _ _ _ w) (by decide) rfl (fun g45 => ?_)
            refine TL.end_ ?_
            refine TX.held (fun w1 hw => hw.pick [4, 2] (by decide) rfl) ?_
            refine TH.only' (listed' := #[true, true, true, true, true, true, true, true, true, false, false]) 6 rfl (by kernel_rfl) rfl ?_
            refine TL.val rfl rfl rfl (gives_lookG (i := 5) (v := .slice s.A s.l.length s.c) rfl rfl rfl (mkey_int Try.underlying35) Try.underlying63 uexzv26 rfl hmg (wf32 hbr2) (by rw [hfm, hfi]; try rfl)) ?_
            refine TL.end_ ?_
            refine TX.held (fun w1 hw => hw.pick [4, 2] (by decide) rfl) ?_
            refine TH.only' (listed' := #[true, true, true, true, true, true, true, true, true, true, false]) 9 rfl (by kernel_rfl) rfl ?_
            refine TL.appendT (k := 1) rfl rfl rfl rfl Try.underlying26 uexel26 rfl rfl rfl (fun w1 hw => pm_reads hw (k := 0) rfl) (fcs_one _) (by show _ * 16 ≤ _; omega) ((s.l ++ [x]).length) (by rw [List.length_append]; rfl) (fcs (s.l ++ [x])) (by rw [fcs_app]) (fun A46 c46 hA461 hA462 => ?_)
            refine TL.end_ ?_
            refine TX.held (fun w1 hw => hw.pick [4, 2] (by decide) rfl) ?_
            refine TH.only' (listed' := #[true, true, true, true, true, true, true, true, true, true, true]) 10 rfl (by kernel_rfl) rfl ?_
            refine TL.mapsetG (i := 5) rfl rfl rfl rfl rfl rfl (mkey_int Try.underlying35) Try.underlying63 rfl hgm hmg (wf32 hbr2) (fun ob8 hmg2 => ?_)
            try dsimp only [List.set_cons_zero, List.set_cons_succ]
            refine TL.end_ ?_
            refine TX.held (fun w1 hw => hw.pick [4, 2] (by decide) rfl) ?_
            refine TH.done (by kernel_rfl) ?_
            refine TX.in_normal ?_
            refine TX.then_ ?_
            refine TC.region ?_
            refine TL.val rfl rfl rfl (gives_bin rfl rfl rfl (fun w => bin_add_ (r := ((i + 1 : Nat) : Int)) (by simp only [IntKind.wrap_i64]; omega) w)) ?_
            refine TL.val rfl rfl rfl (gives_move rfl rfl) ?_
            refine TL.end_ ?_
            exact TX.round (⟨(i + 1, ob8, (ps1.set k (x.b, ⟨A46, c46, s.l ++ [x]⟩))), hi2, by have h9 := hS.old hfi hks hfm hmg2; rw [inc_step hne, ← htk] at h9; exact h9⟩) (by show (forest l).length - (i + 1) < (forest l).length - i; omega) ⟨rfl, rfl, rfl, rfl, rfl, rfl, trivial⟩ (fun w1 hw => (by dsimp only; rw [List.map_set]; exact Pm.segIn (P := _) (s' := ⟨A46, c46, s.l ++ [x]⟩) (Pm.sel hw (.cons _ (.cons_cons _ (.cons _ (List.Sublist.refl _))))) (by rw [List.length_map]; exact (List.getElem?_eq_some_iff.1 hks).1)))
    · have q24 := of_decide_eq_false h24
      obtain rfl : i = (forest l).length := by omega
      rw [hF0, List.take_length] at hS
      obtain ⟨fm, hmg, hfm⟩ := hS.map
      refine TL.end_ ?_
      refine TX.then_ ?_
      refine TC.seq_ ?_
      refine TC.condF rfl ?_
      refine TC.exit_ ?_
      refine TX.then_exit ?_
      refine TX.then_exit ?_
      refine TX.in_same ?_
      refine TX.then_ ?_
      refine TC.seq_ ?_
      refine TC.region ?_
      refine TL.pnew rfl rfl rfl (exec_alloc (cs := [.nilFunc]) rfl uexzv64 rfl) (fun g11 => ?_)
      refine TL.end_ ?_
      refine TX.then_ ?_
      refine TC.seq_ ?_
      refine TC.region ?_
      refine TL.val rfl rfl rfl (gives_makeFunc rfl rfl rfl) ?_
      refine TL.pstore (k := 0) (vs := [.func (.func 38) #[] #[.pointer (some ⟨g5, 0, none⟩), .pointer (some ⟨g8, 0, none⟩), .pointer (some ⟨g11, 0, none⟩)]]) rfl rfl rfl rfl rfl rfl rfl uexsz64 (by intro u hu; rw [List.mem_singleton] at hu; subst hu; rfl) (by show 1 ≤ 1; decide) (L' := ([.blk g11 64 [.func (.func 38) #[] #[.pointer (some ⟨g5, 0, none⟩), .pointer (some ⟨g8, 0, none⟩), .pointer (some ⟨g11, 0, none⟩)]], .blk g5 35 [.int .u32 b], .blk g8 63 [.map (some gm)], .oth gm ob, .row (.slice AF ((forest l).length) cF) 42 3 ((forest l).length) (fcs (forest l))] ++ segG 42 3 fcs (ps.map (·.2)))) rfl ?_
      refine TL.end_ ?_
      refine TX.then_ ?_
      refine TC.seq_ ?_
      refine TC.region ?_
      refine TL.val rfl rfl rfl (pm_load (k := 0) (i := 0) rfl rfl uexag64 rfl rfl) ?_
      refine TL.val rfl rfl rfl (gives_move rfl rfl) ?_
      refine TL.callEPm (α := {y : (Option Addr × Nat) × List Fc × Bool // WalkOk (forest l) y.2.1 y.2.2 a (-1) b ∧ y.2.1.length ≤ y.1.2 ∧ y.1.2 ≤ maxLen ∧ (y.2.1 = [] → y.1 = (none, 0))}) (fun y => .tuple #[.slice y.1.1.1 y.1.2.1.length y.1.1.2, .bool y.1.2.2]) (fun y => [.row (.slice y.1.1.1 y.1.2.1.length y.1.1.2) 42 3 y.1.2.1.length (fcs y.1.2.1)]) rfl rfl rfl (ent_val rfl rfl rfl Try.func38 uexnm38 uexbd38 rfl) (fun w1 hw => walk_ind g5 g8 g11 gm (forest l) b ob fm (getS ps) a ((forest l).length + 1) a (-1) [] w1 (nxt_of (k11 := 0) (k5 := 1) (k8 := 2) (km := 3) hw rfl rfl rfl rfl (fun s hs => List.mem_append_right _ (List.mem_map.2 ⟨s, hs, rfl⟩)) hmg hfm hS hfrs hokf (by omega)) rfl rfl (by show _ < _ + 0; omega) har) ?_
      rintro ⟨⟨⟨AA, cc⟩, way, ok⟩, hwk, hc1, hc2, hc3⟩
      dsimp only [List.cons_append, List.nil_append] at hwk hc1 hc2 hc3 ⊢
      obtain rfl : ok = true := by cases ok with | true => rfl | false => (obtain ⟨p, hp⟩ := hfrs.way hcon; exact absurd hp (hwk.2 rfl p))
      refine TL.val rfl rfl rfl (gives_move rfl rfl) ?_
      refine TL.val rfl rfl rfl (gives_extract rfl rfl rfl) ?_
      refine TL.val rfl rfl rfl (gives_extract rfl rfl rfl) ?_
      refine TL.val rfl rfl rfl (gives_assign rfl rfl) ?_
      refine TL.val rfl rfl rfl (gives_assign rfl rfl) ?_
      refine TL.end_ ?_
      refine TX.then_ ?_
      refine TC.seq_ ?_
      rcases Nat.eq_zero_or_pos way.length with hwn | hwn
      · obtain rfl := List.eq_nil_of_length_eq_zero hwn
        cases (hc3 rfl)
        refine TC.region ?_
        refine TL.val rfl rfl rfl (gives_move rfl rfl) ?_
        refine TL.pcall1 (r := .tuple #[]) rfl rfl rfl rfl rfl Try.func39 uexnm39 uexbd39 (fun w1 hw => frev_nil w1) ?_
        refine TL.end_ ?_
        refine TX.then_ ?_
        refine TC.seq_ ?_
        refine TC.region ?_
        refine TL.val rfl rfl rfl (gives_move rfl rfl) ?_
        refine TL.val rfl rfl rfl (gives_assign rfl rfl) ?_
        refine TL.val rfl rfl rfl (gives_assign rfl rfl) ?_
        refine TL.end_ ?_
        refine TX.then_ ?_
        refine TC.ret_ ?_
        exact ret_pair Try.results16 rfl rfl (fun w1 hw => ⟨⟨((none, 0), [], true), ⟨iff_of_true rfl hsm, fun _ => rfl, fun _ => hwk.1 rfl⟩, Nat.le_refl _, Nat.zero_le _⟩, rfl, Pm.sel hw (.cons_cons _ (List.nil_sublist _))⟩)
      · refine TC.fact (p := ∃ g, AA = some ⟨g, 0, none⟩) (fun w1 hw => rowA hw (k := 0) rfl hwn) ?_
        rintro ⟨gw, rfl⟩
        refine TC.region ?_
        refine TL.val rfl rfl rfl (gives_move rfl rfl) ?_
        refine TL.pcallRwG (k := 0) (α := Unit) (fun _ => .tuple #[]) (fun _ => way.length) (fun _ => fcs way.reverse) rfl rfl rfl rfl rfl Try.func39 uexnm39 uexbd39 rfl (fun w1 hw hr1 => (frev_any gw way.length cc way w1 hr1 rfl hwn (by have := hwk.len hfrs; omega)).mono fun e w2 ⟨h1, h2, h3⟩ => ⟨(), h1, h2, h3⟩) ?_
        rintro ⟨⟩
        try dsimp only [List.set_cons_zero]
        refine TL.end_ ?_
        refine TX.then_ ?_
        refine TC.seq_ ?_
        refine TC.region ?_
        refine TL.val rfl rfl rfl (gives_move rfl rfl) ?_
        refine TL.val rfl rfl rfl (gives_assign rfl rfl) ?_
        refine TL.val rfl rfl rfl (gives_assign rfl rfl) ?_
        refine TL.end_ ?_
        refine TX.then_ ?_
        refine TC.ret_ ?_
        exact ret_pair Try.results16 rfl rfl (fun w1 hw => ⟨⟨((some ⟨gw, 0, none⟩, cc), way.reverse, true), ⟨iff_of_true rfl hsm, fun hh => (by cases hh), fun _ => hwk.1 rfl⟩, by rw [List.length_reverse]; exact hc1, hc2⟩, by dsimp only; rw [List.length_reverse]; rfl, by dsimp only; rw [List.length_reverse]; exact Pm.sel hw (.cons_cons _ (List.nil_sublist _))⟩)
  · have hsm := of_decide_eq_false h17
    refine TL.val rfl rfl rfl (gives_boolnot rfl rfl) ?_
    refine TL.end_ ?_
    refine TX.then_ ?_
    refine TC.condT rfl ?_
    refine TC.seq_ ?_
    refine TC.region ?_
    refine TL.val rfl rfl rfl (gives_assign rfl rfl) ?_
    refine TL.val rfl rfl rfl (gives_assign rfl rfl) ?_
    refine TL.end_ ?_
    refine TX.then_ ?_
    refine TC.ret_ ?_
    refine TX.then_ret ?_
    exact ret_pair Try.results16 rfl rfl (fun w1 hw => ⟨⟨((none, 0), [], false), ⟨iff_of_false (by simp) hsm, fun _ => rfl, fun hh => (by cases hh)⟩, Nat.le_refl _, Nat.zero_le _⟩, rfl, (Pm.sel hw (List.nil_sublist _)).nilrow _ _⟩)
end Go.Proofs.Ytleckflmckbheaa
