/-
  Texts of the proof, joined: URefD, URefS, URefK, URefE, URefL, URefX, URefF, URefG.
-/
import Derived.Test.YtleckflmckbheaaPv6
import Derived.Test.YtleckflmckbheaaPv5
set_option linter.unusedVariables false
set_option linter.unusedSimpArgs false
namespace Go.Proofs.Ytleckflmckbheaa
open Go.RowKit
set_option maxRecDepth 20000
def addU (xs : List Int) (a : Int) : List Int := if a ∈ xs then xs else xs ++ [a]
theorem has_is (A0 : Option Addr) (n0 c0 : Nat) (xs : List Int) (w : World) (hr : Reads w w.heap.size 1 A0 n0 (uv xs)) (hl : xs.length = n0) (hl1 : xs.length ≤ 100000) (a : Int) {t : Bool} (ht : decide (a ∈ xs) = t) :
    Calls Try.prog 45 #[.slice A0 n0 c0, .int .u32 a] w fun e w' => e = .returned (.bool t) ∧ Below w.heap.size w w' := by
  subst ht
  exact has_any A0 n0 c0 xs w hr hl hl1 a
theorem urdsz35 (w : World) : (sizeOf 35).run Try.prog w = .ok 1 w := rfl
theorem urdnm45 : (Try.f45.name == "runtime.NumGoroutine") = false := by decide
theorem urdbd45 : Try.f45.body.isNone = false := rfl
theorem urdbs31_1_5377 (a0_0 : Int) (w : World) : (Instr.buildSlice 31 1 #[(0, .int .u32 a0_0)]).run Try.prog w = .ok (.slice (some ⟨w.heap.size, 0, none⟩) 1 1) (w.alloc (.cells [.int .u32 a0_0].toArray 35)) := by kernel_rfl
theorem urdel31 : Elem Try.prog 31 35 1 4 := Elem.mk' Try.underlying31 (z := .int .u32 0) (by kernel_rfl) rfl (by omega) (by omega)
set_option maxHeartbeats 1000000 in
theorem addu_some (g c : Nat) (xs : List Int) (a : Int) (w : World) (h : RwG 35 1 w g xs.length c (uv xs)) (hl1 : xs.length ≤ 100000) {zs : List Int} (hz : addU xs a = zs) : Calls Try.prog 55 #[.slice (some ⟨g, 0, none⟩) xs.length c, .int .u32 a] w fun e w' => ∃ y : {p : Option Addr × Nat // zs.length ≤ p.2 ∧ p.2 ≤ maxLen}, e = .returned (.slice y.1.1 zs.length y.1.2) ∧ w'.ownsRow g 35 1 (.slice y.1.1 zs.length y.1.2) zs.length (uv zs) ∧ w.grownBy w' (some g) ∧ ∀ g', (Value.slice y.1.1 zs.length y.1.2).ownBlock = some g' → g' = g ∨ w.heap.size ≤ g' := by
  refine begin_ (vs := [.slice (some ⟨g, 0, none⟩) xs.length c, .int .u32 a]) (I := Pm ⟨wbut w g, g⟩ (.row (.slice (some ⟨g, 0, none⟩) xs.length c) 35 1 xs.length (uv xs) :: oths g w)) Try.func55 rfl rfl rfl ?_ (Pm.rowStartG h)
  refine TC.seq_ ?_
  refine TC.region ?_
  refine TL.val rfl rfl rfl (gives_assign rfl rfl) ?_
  refine TL.end_ ?_
  refine TX.then_ ?_
  refine TC.seq_ ?_
  refine TC.seq_ ?_
  rcases Classical.em (a ∈ xs) with p1 | p1
  · refine TC.region ?_
    refine TL.val rfl rfl rfl (gives_move rfl rfl) ?_
    refine TL.val rfl rfl rfl (gives_move rfl rfl) ?_
    refine TL.pcall1 (r := .bool true) rfl rfl rfl rfl rfl Try.func45 urdnm45 urdbd45 (fun w1 hw => has_is (some ⟨g, 0, none⟩) _ c xs w1 (by obtain ⟨B9, h8⟩ := pm_reads hw (k := 0) rfl; exact reads_up h8 (pm_row_lt hw (k := 0) rfl)) rfl (by omega) a (decide_eq_true p1)) ?_
    refine TL.end_ ?_
    refine TX.then_ ?_
    refine TC.condT rfl ?_
    refine TC.seq_ ?_
    refine TC.region ?_
    refine TL.val rfl rfl rfl (gives_move rfl rfl) ?_
    refine TL.val rfl rfl rfl (gives_assign rfl rfl) ?_
    refine TL.end_ ?_
    refine TX.then_ ?_
    refine TC.ret_ ?_
    refine TX.then_ret ?_
    obtain rfl : zs = xs := by rw [← hz]; unfold addU; rw [if_pos p1]
    exact ret_tmp Try.results55 rfl (fun w1 hw => ⟨⟨((some ⟨g, 0, none⟩), c), h.obj.2.1, h.obj.2.2⟩, rfl, hw.at_ (k := 0) rfl, hw.mapEnd (fun q hq => by simp [hq]), fun g' hg' => key_new hw (fun q hq => by simp [hq]) hg'⟩)
  · refine TC.region ?_
    refine TL.val rfl rfl rfl (gives_move rfl rfl) ?_
    refine TL.val rfl rfl rfl (gives_move rfl rfl) ?_
    refine TL.pcall1 (r := .bool false) rfl rfl rfl rfl rfl Try.func45 urdnm45 urdbd45 (fun w1 hw => has_is (some ⟨g, 0, none⟩) _ c xs w1 (by obtain ⟨B9, h8⟩ := pm_reads hw (k := 0) rfl; exact reads_up h8 (pm_row_lt hw (k := 0) rfl)) rfl (by omega) a (decide_eq_false p1)) ?_
    refine TL.end_ ?_
    refine TX.then_ ?_
    refine TC.condF rfl ?_
    refine TC.skip_ ?_
    refine TX.then_ ?_
    refine TC.seq_ ?_
    refine TC.region ?_
    refine TL.val rfl rfl rfl (gives_move rfl rfl) ?_
    refine TL.val rfl rfl rfl (gives_move rfl rfl) ?_
    refine TL.prowS (e := 35) (size := 1) (cs := uv [a]) rfl rfl rfl rfl rfl (fun w => urdbs31_1_5377 _ w) (by decide) rfl (fun g11 => ?_)
    refine TL.appendT (k := 1) rfl rfl rfl rfl Try.underlying31 urdel31 rfl rfl rfl (fun w1 hw => pm_reads hw (k := 0) rfl) (uv_one [a]) (by show _ * 4 ≤ _; omega) ((xs ++ [a]).length) (by simp) (uv (xs ++ [a])) ((uv_app _ _).symm) (fun A12 c12 hA121 hA122 => ?_)
    refine TL.val rfl rfl rfl (gives_assign rfl rfl) ?_
    refine TL.end_ ?_
    refine TX.then_ ?_
    refine TC.ret_ ?_
    obtain rfl : zs = xs ++ [a] := by rw [← hz]; unfold addU; rw [if_neg p1]
    exact ret_tmp Try.results55 rfl (fun w1 hw => ⟨⟨(A12, c12), hA121, hA122⟩, rfl, hw.at_ (k := 1) rfl, hw.mapEnd (fun q hq => by simp [hq]), fun g' hg' => key_new hw.swap (fun q hq => by simp [hq]) hg'⟩)
set_option maxHeartbeats 1000000 in
theorem addu_nil (a : Int) (w : World) {zs : List Int} (hz : addU [] a = zs) : Calls Try.prog 55 #[.slice none 0 0, .int .u32 a] w fun e w' => ∃ y : {p : Option Addr × Nat // zs.length ≤ p.2 ∧ p.2 ≤ maxLen}, e = .returned (.slice y.1.1 zs.length y.1.2) ∧ Pm w [.row (.slice y.1.1 zs.length y.1.2) 35 1 zs.length (uv zs)] w' := by
  refine begin_ (vs := [.slice none 0 0, .int .u32 a]) Try.func55 rfl rfl rfl ?_ (Pm.start w)
  refine TC.seq_ ?_
  refine TC.region ?_
  refine TL.val rfl rfl rfl (gives_assign rfl rfl) ?_
  refine TL.end_ ?_
  refine TX.then_ ?_
  refine TC.seq_ ?_
  refine TC.seq_ ?_
  rcases Classical.em (a ∈ ([] : List Int)) with p1 | p1
  · refine TC.region ?_
    refine TL.val rfl rfl rfl (gives_move rfl rfl) ?_
    refine TL.val rfl rfl rfl (gives_move rfl rfl) ?_
    refine TL.pcall1 (r := .bool true) rfl rfl rfl rfl rfl Try.func45 urdnm45 urdbd45 (fun w1 hw => has_is none _ 0 [] w1 Reads.none_ rfl (by decide) a (decide_eq_true p1)) ?_
    refine TL.end_ ?_
    refine TX.then_ ?_
    refine TC.condT rfl ?_
    refine TC.seq_ ?_
    refine TC.region ?_
    refine TL.val rfl rfl rfl (gives_move rfl rfl) ?_
    refine TL.val rfl rfl rfl (gives_assign rfl rfl) ?_
    refine TL.end_ ?_
    refine TX.then_ ?_
    refine TC.ret_ ?_
    refine TX.then_ret ?_
    exact absurd p1 List.not_mem_nil
  · refine TC.region ?_
    refine TL.val rfl rfl rfl (gives_move rfl rfl) ?_
    refine TL.val rfl rfl rfl (gives_move rfl rfl) ?_
    refine TL.pcall1 (r := .bool false) rfl rfl rfl rfl rfl Try.func45 urdnm45 urdbd45 (fun w1 hw => has_is none _ 0 [] w1 Reads.none_ rfl (by decide) a (decide_eq_false p1)) ?_
    refine TL.end_ ?_
    refine TX.then_ ?_
    refine TC.condF rfl ?_
    refine TC.skip_ ?_
    refine TX.then_ ?_
    refine TC.seq_ ?_
    refine TC.region ?_
    refine TL.val rfl rfl rfl (gives_move rfl rfl) ?_
    refine TL.val rfl rfl rfl (gives_move rfl rfl) ?_
    refine TL.prowS (e := 35) (size := 1) (cs := uv [a]) rfl rfl rfl rfl rfl (fun w => urdbs31_1_5377 _ w) (by decide) rfl (fun g11 => ?_)
    refine TL.nilrow 35 1 ?_
    refine TL.appendT (k := 0) rfl rfl rfl rfl Try.underlying31 urdel31 rfl rfl rfl (fun w1 hw => pm_reads hw (k := 1) rfl) (uv_one [a]) (by show _ * 4 ≤ _; omega) (([] ++ [a]).length) (rfl) (uv ([] ++ [a])) (rfl) (fun A12 c12 hA121 hA122 => ?_)
    refine TL.val rfl rfl rfl (gives_assign rfl rfl) ?_
    refine TL.end_ ?_
    refine TX.then_ ?_
    refine TC.ret_ ?_
    obtain rfl : zs = [] ++ [a] := by rw [← hz]; unfold addU; rw [if_neg p1]
    exact ret_tmp Try.results55 rfl (fun w1 hw => ⟨⟨(A12, c12), hA121, hA122⟩, rfl, hw.pick [0] (by decide) rfl⟩)
theorem addu_any (B : Nat) (A : Option Addr) (c : Nat) (xs : List Int) (a : Int) (w : World) (h : w.ownsRow B 35 1 (.slice A xs.length c) xs.length (uv xs)) (hB : B ≤ w.heap.size) (hl1 : xs.length ≤ 100000) {zs : List Int} (hz : addU xs a = zs) :
    Calls Try.prog 55 #[.slice A xs.length c, .int .u32 a] w fun e w' => ∃ y : {p : Option Addr × Nat // zs.length ≤ p.2 ∧ p.2 ≤ maxLen}, e = .returned (.slice y.1.1 zs.length y.1.2) ∧ w'.ownsRow B 35 1 (.slice y.1.1 zs.length y.1.2) zs.length (uv zs) ∧ w.grownBy w' (Value.slice A xs.length c).ownBlock ∧ ∀ g', (Value.slice y.1.1 zs.length y.1.2).ownBlock = some g' → (Value.slice A xs.length c).ownBlock = some g' ∨ w.heap.size ≤ g' := by
  rcases h.2 with ⟨e1, h2⟩ | ⟨g, cap, cur, a1, hb, hgg, r⟩
  · injection e1 with e1 e2 e3
    subst e1 e3
    have h0 : xs = [] := List.eq_nil_of_length_eq_zero e2
    subst h0
    refine (addu_nil a w hz).mono fun e w1 ⟨y, he, hp⟩ => ⟨y, he, ?_, ?_, fun g' hg' => .inr ?_⟩
    · exact own_base (hp.at_ (k := 0) rfl) hB
    · exact ⟨hp.bel.os, hp.bel.tape, hp.bel.output, hp.bel.size, fun k hk _ => hp.bel.block k hk⟩
    · exact (Pc.lt (hp.at_ (k := 0) rfl) g' hg').1
  · cases a1
    refine (addu_some g c xs a w ⟨h.1, .inr ⟨g, c, cur, rfl, Nat.le_refl _, hgg, r⟩⟩ hl1 hz).mono fun e w1 ⟨y, he, h1, h2, h3⟩ => ⟨y, he, own_base h1 hb, h2, fun g' hg' => (h3 g' hg').imp (fun e => by rw [e]; rfl) id⟩
end Go.Proofs.Ytleckflmckbheaa

namespace Go.Proofs.Ytleckflmckbheaa
open Go.RowKit
set_option maxRecDepth 20000
theorem asc_nil : ([] : List Int) = asc [] := by simp [asc, cpt]
theorem asc_old {L : List Int} {o : List Int} {v : Int} (ho : o = asc L) (hv : v ∈ o) : asc (L ++ [v]) = o := by
 subst ho
 refine asc_eq _ _ (asc_asc _) (asc_asc _) fun x => ?_
 rw [mem_asc, mem_asc, List.mem_append, List.mem_singleton]
 refine ⟨fun hh => hh.elim id fun e => ?_, .inl⟩
 rw [e]
 exact (mem_asc _ _).1 hv
theorem asc_ins {L : List Int} {o : List Int} {v : Int} {k : Nat} (ho : o = asc L) (hk : k ≤ o.length) (hlo : ∀ (p : Nat) (z : Int), o[p]? = some z → p < k → z < v) (hhi : ∀ z, o[k]? = some z → v < z) : asc (L ++ [v]) = o.take k ++ v :: o.drop k := by
 have hp : o.Pairwise (· < ·) := by rw [ho]; exact asc_asc L
 have h1 : ∀ z ∈ o.take k, z < v := by
  intro z hz
  obtain ⟨p, hp⟩ := List.getElem?_of_mem hz
  rw [List.getElem?_take] at hp
  split at hp
  ·rename_i h9
   exact hlo p z hp h9
  ·cases hp
 have h2 : ∀ z ∈ o.drop k, v < z := by
  intro z hz
  rcases Nat.lt_or_ge k o.length with hh | hh
  ·have h3 := hhi _ (List.getElem?_eq_getElem hh)
   rw [List.drop_eq_getElem_cons hh] at hz
   rcases List.mem_cons.1 hz with e | hz
   ·rw [e]; exact h3
   ·have hq := hp.sublist (List.drop_sublist k o)
    rw [List.drop_eq_getElem_cons hh] at hq
    exact Int.lt_trans h3 ((List.pairwise_cons.1 hq).1 z hz)
  ·rw [List.drop_eq_nil_of_le hh] at hz
   cases hz
 refine asc_eq _ _ (asc_asc _) ?_ fun x => ?_
 ·rw [List.pairwise_append]
  refine ⟨hp.sublist (List.take_sublist _ _), List.pairwise_cons.2 ⟨h2, hp.sublist (List.drop_sublist _ _)⟩, fun a ha b hb => ?_⟩
  rcases List.mem_cons.1 hb with rfl | hb
  ·exact h1 a ha
  ·exact Int.lt_trans (h1 a ha) (h2 b hb)
 ·have hm : x ∈ o ↔ x ∈ L := by rw [ho]; exact mem_asc L x
  have hs : x ∈ o ↔ x ∈ o.take k ∨ x ∈ o.drop k := by rw [← List.mem_append, List.take_append_drop]
  rw [mem_asc, List.mem_append, List.mem_append, List.mem_singleton, List.mem_cons, ← hm, hs]
  constructor
  ·rintro ((h | h) | h)
   ·exact .inl h
   ·exact .inr (.inr h)
   ·exact .inr (.inl h)
  ·rintro (h | h | h)
   ·exact .inl (.inl h)
   ·exact .inr h
   ·exact .inl (.inr h)
theorem off_if {g c k n m : Nat} : (Value.slice (if c = k + 1 then some ⟨g, 0, none⟩ else (some ⟨g, 0, none⟩ : Option Addr).map (·.add (k + 1))) n m : Value) = .slice (some ⟨g, if c = k + 1 then 0 else k + 1, none⟩) n m := by
 split
 ·rfl
 ·rw [Option.map_some]
  have : (⟨g, 0, none⟩ : Addr).add (k + 1) = ⟨g, k + 1, none⟩ := by unfold Addr.add; split <;> simp_all
  rw [this]
theorem set_mid (o : List Int) (v t : Int) {k : Nat} (hk : k ≤ o.length) : (o.take k ++ t :: o.drop k).set k v = o.take k ++ v :: o.drop k := by
 have h1 : (o.take k).length = k := by rw [List.length_take]; omega
 rw [List.set_append_right _ _ (by omega), h1, Nat.sub_self]
 rfl
theorem shift_mid (o : List Int) (k c : Nat) (hk : k ≤ o.length) (hc : o.length + 1 ≤ c) : ∃ t : Int, (uv (o ++ [0])).take (if c = k + 1 then 0 else k + 1) ++ uv (o.drop k) ++ (uv (o ++ [0])).drop ((if c = k + 1 then 0 else k + 1) + (uv (o.drop k)).length) = uv (o.take k ++ t :: o.drop k) := by
 by_cases h : c = k + 1
 ·have hk2 : k = o.length := by omega
  refine ⟨0, ?_⟩
  subst hk2
  rw [if_pos h, List.drop_length, List.take_length]
  simp [uv]
 ·rw [if_neg h, uv_len, List.length_drop]
  obtain ⟨t, ht⟩ : ∃ t, (o ++ [0])[k]? = some t := ⟨_, List.getElem?_eq_getElem (by simp; omega)⟩
  refine ⟨t, ?_⟩
  have h1 : (o ++ [0]).take (k + 1) = o.take k ++ [t] := by rw [List.take_add_one, ht, List.take_append_of_le_length hk]; rfl
  have h2 : (uv (o ++ [0])).drop (k + 1 + (o.length - k)) = [] := List.drop_eq_nil_of_le (by rw [uv_len, List.length_append, List.length_singleton]; omega)
  rw [h2, List.append_nil, show (uv (o ++ [0])).take (k + 1) = uv ((o ++ [0]).take (k + 1)) by unfold uv; rw [List.map_take], h1, ← uv_app, List.append_assoc]
  rfl
theorem shift_src {o : List Int} {k j : Nat} {u : Value} (h : (uv (o.drop k))[j]? = some u) : (uv (o ++ [0]))[k + j]? = some u := by
 unfold uv at h ⊢
 rw [List.getElem?_map, List.getElem?_drop] at h
 rw [List.getElem?_map]
 cases hz : o[k + j]? with
 | none => rw [hz] at h; cases h
 | some z => rw [hz] at h; rw [List.getElem?_append_left (List.getElem?_eq_some_iff.1 hz).1, hz]; exact h
theorem urssz35 (w : World) : (sizeOf 35).run Try.prog w = .ok 1 w := rfl
theorem ursbs31_1_5377 (a0_0 : Int) (w : World) : (Instr.buildSlice 31 1 #[(0, .int .u32 a0_0)]).run Try.prog w = .ok (.slice (some ⟨w.heap.size, 0, none⟩) 1 1) (w.alloc (.cells [.int .u32 a0_0].toArray 35)) := by kernel_rfl
theorem ursel31 : Elem Try.prog 31 35 1 4 := Elem.mk' Try.underlying31 (z := .int .u32 0) (by kernel_rfl) rfl (by omega) (by omega)
theorem ursag35 (w : World) : (isAgg 35).run Try.prog w = .ok false w := rfl
set_option maxHeartbeats 1000000 in
theorem rsort_any (A0 : Option Addr) (n0 c0 : Nat) (xs : List Int) (w : World) (hr : Reads w w.heap.size 1 A0 n0 (uv xs)) (hl : xs.length = n0) (hl1 : xs.length ≤ 100000) :
  Calls Try.prog 44 #[.slice A0 n0 c0] w fun e w' => ∃ y : {p : Option Addr × Nat // (asc xs).length ≤ p.2 ∧ p.2 ≤ maxLen}, e = .returned (.slice y.1.1 (asc xs).length y.1.2) ∧ Pm w [.row (.slice y.1.1 (asc xs).length y.1.2) 35 1 (asc xs).length (uv (asc xs))] w' := by
 subst hl
 refine begin_ (vs := [.slice A0 xs.length c0]) Try.func44 rfl rfl rfl ?_ (Pm.start w)
 refine TC.seq_ (TC.region ?_)
 refine TL.as_ ?_
 refine TL.end_ (TX.then_ (TC.seq_ (TC.region ?_)))
 refine TL.as_ ?_
 refine TL.end_ (TX.then_ (TC.seq_ (TC.seq_ (TC.region ?_))))
 refine TL.as_ ?_
 refine TL.end_ (TX.then_ (TC.block ?_))
 refine TC.nilrow 35 1 ?_
 refine TC.loop_ (α := {y : Nat × (Option Addr × Nat) × List Int // y.1 ≤ xs.length ∧ y.2.2 = asc (xs.take y.1) ∧ y.2.2.length ≤ y.2.1.2 ∧ y.2.1.2 ≤ maxLen}) (fun y => [(0, .slice A0 xs.length c0), (3, .slice y.1.2.1.1 y.1.2.2.length y.1.2.1.2), (4, .int .i64 ((y.1.1 : Nat) : Int))]) (fun y => Pm w [.row (.slice y.1.2.1.1 y.1.2.2.length y.1.2.1.2) 35 1 y.1.2.2.length (uv y.1.2.2)]) (fun y => xs.length - y.1.1) (⟨(0, (none, 0), []), Nat.zero_le _, asc_nil, Nat.le_refl _, Nat.zero_le _⟩) ⟨rfl, rfl, rfl, trivial⟩ (fun w1 hw => hw) ?_
 rintro ⟨⟨i, ⟨Ao, co⟩, o⟩, hi, ho, hco, hcm⟩
 dsimp only at hi ho hco hcm ⊢
 refine TC.seq_ (TC.seq_ (TC.region ?_))
 refine TL.mv ?_
 refine TL.mv ?_
 refine TL.val rfl rfl rfl (gives_len rfl Try.underlying31 rfl) ?_
 refine TL.vsplit rfl rfl rfl (gives_bin rfl rfl rfl (fun w => bin_lss w)) (fun h9 => ?_) (fun h9 => ?_)
 ·have q9 := of_decide_eq_true h9
  obtain ⟨v, hv⟩ : ∃ v, xs[i]? = some v := ⟨_, List.getElem?_eq_getElem (by omega)⟩
  obtain ⟨b2, o2, hA2, hbb2, hc2⟩ := hr.ad (by omega) (by decide)
  have hol : o.length ≤ 100000 := by rw [ho]; exact Nat.le_trans (asc_len _) (by rw [List.length_take]; omega)
  refine TL.end_ (TX.then_ (TC.condT rfl (TC.skip_ (TX.then_ (TC.seq_ (TC.block (TC.seq_ (TC.region ?_))))))))
  refine TL.as_ ?_
  refine TL.end_ (TX.then_ (TC.seq_ (TC.block ?_)))
  refine TC.loop_ (α := {k : Nat // k ≤ o.length ∧ ∀ (p : Nat) (z : Int), o[p]? = some z → p < k → z < v}) (fun y => [(0, .slice A0 xs.length c0), (3, .slice Ao o.length co), (4, .int .i64 ((i : Nat) : Int)), (5, .int .i64 ((y.1 : Nat) : Int))]) (fun y => Pm w [.row (.slice Ao o.length co) 35 1 o.length (uv o)]) (fun y => o.length - y.1) (⟨0, Nat.zero_le _, fun p z _ hp => absurd hp (Nat.not_lt_zero p)⟩) ⟨rfl, rfl, rfl, rfl, trivial⟩ (fun w1 hw => hw) ?_
  rintro ⟨k, hk, hlo⟩
  dsimp only at hk hlo ⊢
  refine TC.seq_ (TC.seq_ ?_)
  have hway6 : o.length ≤ k ∨ (∃ u, o[k]? = some u ∧ u < v) ∨ (∃ u, o[k]? = some u ∧ ¬ u < v) := by
   rcases Nat.lt_or_ge k o.length with hh | hh
   ·rcases Classical.em (o[k] < v) with h9 | h9
    ·exact .inr (.inl ⟨_, List.getElem?_eq_getElem hh, h9⟩)
    ·exact .inr (.inr ⟨_, List.getElem?_eq_getElem hh, h9⟩)
   ·exact .inl hh
  rcases hway6 with p4 | ⟨u, hu, p5⟩ | ⟨u, hu, p5⟩
  ·refine TC.quiet_ (E' := ?_) (by kernel_rfl) (by kernel_rfl) (fun w hw => hw.drawn _) ?_ ?_
   rotate_left
   ·refine TQ.val rfl rfl rfl (gives_move rfl rfl) ?_
    refine TQ.val rfl rfl rfl (gives_move rfl rfl) ?_
    refine TQ.val rfl rfl rfl (gives_len rfl Try.underlying31 rfl) ?_
    refine TQ.val rfl rfl rfl (gives_bin rfl rfl rfl (fun w => bin_lss_f (by omega) w)) ?_
    iterate 11 (first | refine TQ.off rfl rfl rfl rfl rfl rfl ?_ | refine TQ.val rfl rfl rfl (gives_move rfl rfl) ?_ | refine TQ.val rfl rfl rfl (gives_pick rfl rfl rfl) ?_)
    exact TQ.end_
   refine TX.then_ (TC.condF rfl (TC.exit_ (TX.then_exit (TX.then_exit (TX.in_same (TX.then_ (TC.seq_ (TC.seq_ ?_))))))))
   ·have hins : o.take k ++ v :: o.drop k = asc (xs.take (i + 1)) := by rw [List.take_add_one, hv]; exact (asc_ins ho hk hlo (fun z hz => absurd (List.getElem?_eq_some_iff.1 hz).1 (by omega))).symm
    have hinl : (o.take k ++ v :: o.drop k).length = o.length + 1 := by rw [List.length_append, List.length_cons, List.length_take, List.length_drop]; omega
    refine TC.quiet_ (E' := ?_) (by kernel_rfl) (by kernel_rfl) (fun w hw => hw.drawn _) ?_ ?_
    rotate_left
    ·refine TQ.val rfl rfl rfl (gives_move rfl rfl) ?_
     refine TQ.val rfl rfl rfl (gives_move rfl rfl) ?_
     refine TQ.val rfl rfl rfl (gives_len rfl Try.underlying31 rfl) ?_
     refine TQ.val rfl rfl rfl (gives_bin rfl rfl rfl (fun w => bin_lss_f (by omega) w)) ?_
     iterate 11 (first | refine TQ.off rfl rfl rfl rfl rfl rfl ?_ | refine TQ.val rfl rfl rfl (gives_move rfl rfl) ?_ | refine TQ.val rfl rfl rfl (gives_pick rfl rfl rfl) ?_)
     exact TQ.end_
    refine TX.then_ (TC.condF rfl (TC.skip_ (TX.then_ (TC.seq_ (TC.region ?_)))))
    refine TL.mv ?_
    refine TL.prowS (e := 35) (size := 1) (cs := uv [0]) rfl rfl rfl rfl rfl (fun w => ursbs31_1_5377 _ w) (by decide) rfl (fun g45 => ?_)
    refine TL.appendT (k := 1) rfl rfl rfl rfl Try.underlying31 ursel31 rfl rfl rfl (fun w1 hw => pm_reads hw (k := 0) rfl) (uv_one [0]) (by show _ * 4 ≤ _; omega) ((o.length + 1)) (rfl) (uv (o ++ [0])) ((uv_app _ _).symm) (fun A46 c46 hA461 hA462 => ?_)
    refine TL.fact (p := ∃ g, A46 = some ⟨g, 0, none⟩) (fun w1 hw => rowA hw (k := 1) rfl (by simp)) ?_
    rintro ⟨g9, rfl⟩
    refine TL.as_ ?_
    refine TL.end_ (TX.then_ (TC.seq_ ?_))
    refine TC.tail 7 (by kernel_rfl) (by kernel_rfl) (fun w hw => hw.drawn _) ?_
    refine TS.val rfl rfl rfl (gives_move rfl rfl) ?_
    refine TS.val rfl rfl rfl (gives_move rfl rfl) ?_
    refine TS.val rfl rfl rfl (gives_bin rfl rfl rfl (fun w => bin_add_ (r := ((k + 1 : Nat) : Int)) (by simp only [IntKind.wrap_i64]; omega) w)) ?_
    refine TS.val rfl rfl rfl (gives_sliceL (v := .slice (some ⟨g9, (if c46 = k + 1 then 0 else k + 1), none⟩) (o.length + 1 - (k + 1)) (c46 - (k + 1))) rfl rfl rfl (fun w => (cut_lo1 (P := Try.prog) Try.underlying31 urssz35 (some ⟨g9, 0, none⟩) (o.length + 1) c46 (k + 1) rfl (by omega) w).trans (by rw [off_if]))) ?_
    refine TS.val rfl rfl rfl (gives_move rfl rfl) ?_
    refine TS.val rfl rfl rfl (gives_move rfl rfl) ?_
    refine TS.val rfl rfl rfl (gives_tail (k := k) rfl rfl rfl rfl Try.underlying31 urssz35 (by omega) (by omega)) ?_
    refine TS.end_ ?_
    obtain ⟨t, ht⟩ := shift_mid o k c46 hk hA461
    refine TL.copyRow (k := 1) (cs := uv (o.drop k)) (m := o.length - k) (xs' := uv (o.take k ++ t :: o.drop k)) rfl rfl rfl rfl Try.underlying31 urssz35 rfl rfl rfl (fun w1 hw j u2 hj => by rw [show (⟨g9, k, none⟩ : Addr).add j = ⟨g9, k + j, none⟩ by unfold Addr.add; split <;> simp_all]; exact pm_row hw (k := 1) rfl (shift_src hj)) (by simp only [Nat.min_def]; split <;> omega) (by rw [uv_len, List.length_drop, Nat.mul_one]) (by rw [uv_len, uv_len, List.length_drop, List.length_append, List.length_singleton]; split <;> omega) (uv_one _) ht ?_
    try dsimp only [List.set_cons_zero, List.set_cons_succ]
    refine TL.end_ (TX.then_ (TC.region ?_))
    iterate 4 (first | refine TL.mv ?_)
    refine TL.val rfl rfl rfl (gives_at (v := .pointer (some ⟨b2, o2 + i * 1, none⟩)) rfl rfl rfl (fun w => at_el Try.underlying31 urssz35 hA2 _ _ i (by omega) rfl w)) ?_
    refine TL.val rfl rfl rfl (gives_load (v := .int .u32 v) rfl rfl ursag35 (fun w1 hw => (hw.bel.cell hbb2).trans (by rw [Nat.mul_one]; exact hc2 _ _ (by unfold uv; rw [List.getElem?_map, hv]; rfl)))) ?_
    refine TL.val rfl rfl rfl (gives_at (v := .pointer (some ⟨g9, k, none⟩)) rfl rfl rfl (fun w => at_row Try.underlying31 urssz35 g9 _ _ k (by omega) rfl w)) ?_
    refine TL.uset (k := 1) (i := k) rfl rfl rfl rfl rfl rfl urssz35 (by rw [List.length_append, List.length_cons, List.length_take, List.length_drop]; omega) ?_
    try dsimp only [List.set_cons_zero, List.set_cons_succ]
    rw [set_mid o v t hk]
    refine TL.end_ (TX.in_normal (TX.then_ (TC.region ?_)))
    refine TL.mv ?_
    refine TL.val rfl rfl rfl (gives_bin rfl rfl rfl (fun w => bin_add_ (r := ((i + 1 : Nat) : Int)) (by simp only [IntKind.wrap_i64]; omega) w)) ?_
    refine TL.as_ ?_
    refine TL.end_ ?_
    exact TX.round (⟨(i + 1, (some ⟨g9, 0, none⟩, c46), o.take k ++ v :: o.drop k), by dsimp only; omega, hins, by dsimp only; rw [hinl]; exact hA461, hA462⟩) (by show xs.length - (i + 1) < xs.length - i; omega) ⟨rfl, (by dsimp only; rw [hinl]; rfl), rfl, trivial⟩ (fun w1 hw => (by dsimp only; rw [hinl]; exact hw.pick [1] (by decide) rfl))
  ·have hkl := (List.getElem?_eq_some_iff.1 hu).1
   have hlo2 : ∀ (p : Nat) (z : Int), o[p]? = some z → p < k + 1 → z < v := fun p z hz hp => by
    rcases Nat.lt_or_ge p k with hh | hh
    ·exact hlo p z hz hh
    ·obtain rfl : p = k := by omega
     rw [hu] at hz
     cases hz
     exact p5
   refine TC.fact (p := ∃ g, Ao = some ⟨g, 0, none⟩) (fun w1 hw => rowA hw (k := 0) rfl (by omega)) ?_
   rintro ⟨go, rfl⟩
   refine TC.quiet_ (E' := ?_) (by kernel_rfl) (by kernel_rfl) (fun w hw => hw.drawn _) ?_ ?_
   rotate_left
   ·refine TQ.val rfl rfl rfl (gives_move rfl rfl) ?_
    refine TQ.val rfl rfl rfl (gives_move rfl rfl) ?_
    refine TQ.val rfl rfl rfl (gives_len rfl Try.underlying31 rfl) ?_
    refine TQ.val rfl rfl rfl (gives_bin rfl rfl rfl (fun w => bin_lss_t (by omega) w)) ?_
    iterate 6 (first | refine TQ.val rfl rfl rfl (gives_move rfl rfl) ?_ | refine TQ.on rfl rfl rfl ?_)
    refine TQ.val rfl rfl rfl (gives_at (v := .pointer (some ⟨go, k, none⟩)) rfl rfl rfl (fun w => at_row Try.underlying31 urssz35 go _ _ k (by omega) rfl w)) ?_
    refine TQ.on rfl rfl rfl ?_
    refine TQ.val rfl rfl rfl (pm_loadRow (k := 0) (i := k) rfl rfl ursag35 rfl (by unfold uv; rw [List.getElem?_map, hu]; rfl)) ?_
    iterate 5 (first | refine TQ.on rfl rfl rfl ?_ | refine TQ.val rfl rfl rfl (gives_move rfl rfl) ?_)
    refine TQ.val rfl rfl rfl (gives_at (v := .pointer (some ⟨b2, o2 + i * 1, none⟩)) rfl rfl rfl (fun w => at_el Try.underlying31 urssz35 hA2 _ _ i (by omega) rfl w)) ?_
    refine TQ.on rfl rfl rfl ?_
    refine TQ.val rfl rfl rfl (gives_load (v := .int .u32 v) rfl rfl ursag35 (fun w1 hw => (hw.bel.cell hbb2).trans (by rw [Nat.mul_one]; exact hc2 _ _ (by unfold uv; rw [List.getElem?_map, hv]; rfl)))) ?_
    refine TQ.on rfl rfl rfl ?_
    refine TQ.val rfl rfl rfl (gives_bin rfl rfl rfl (fun w => bin_lss_t (p5) w)) ?_
    refine TQ.val rfl rfl rfl (gives_pick rfl rfl rfl) ?_
    exact TQ.end_
   refine TX.then_ (TC.condT rfl (TC.skip_ (TX.then_ (TC.block (TC.region ?_)))))
   refine TL.mv ?_
   refine TL.val rfl rfl rfl (gives_bin rfl rfl rfl (fun w => bin_add_ (r := ((k + 1 : Nat) : Int)) (by simp only [IntKind.wrap_i64]; omega) w)) ?_
   refine TL.as_ ?_
   refine TL.end_ (TX.in_normal ?_)
   exact TX.round (⟨k + 1, by omega, hlo2⟩) (by show o.length - (k + 1) < o.length - k; omega) ⟨rfl, rfl, rfl, rfl, trivial⟩ (fun w1 hw => hw)
  ·have hkl := (List.getElem?_eq_some_iff.1 hu).1
   refine TC.fact (p := ∃ g, Ao = some ⟨g, 0, none⟩) (fun w1 hw => rowA hw (k := 0) rfl (by omega)) ?_
   rintro ⟨go, rfl⟩
   refine TC.quiet_ (E' := ?_) (by kernel_rfl) (by kernel_rfl) (fun w hw => hw.drawn _) ?_ ?_
   rotate_left
   ·refine TQ.val rfl rfl rfl (gives_move rfl rfl) ?_
    refine TQ.val rfl rfl rfl (gives_move rfl rfl) ?_
    refine TQ.val rfl rfl rfl (gives_len rfl Try.underlying31 rfl) ?_
    refine TQ.val rfl rfl rfl (gives_bin rfl rfl rfl (fun w => bin_lss_t (by omega) w)) ?_
    iterate 6 (first | refine TQ.val rfl rfl rfl (gives_move rfl rfl) ?_ | refine TQ.on rfl rfl rfl ?_)
    refine TQ.val rfl rfl rfl (gives_at (v := .pointer (some ⟨go, k, none⟩)) rfl rfl rfl (fun w => at_row Try.underlying31 urssz35 go _ _ k (by omega) rfl w)) ?_
    refine TQ.on rfl rfl rfl ?_
    refine TQ.val rfl rfl rfl (pm_loadRow (k := 0) (i := k) rfl rfl ursag35 rfl (by unfold uv; rw [List.getElem?_map, hu]; rfl)) ?_
    iterate 5 (first | refine TQ.on rfl rfl rfl ?_ | refine TQ.val rfl rfl rfl (gives_move rfl rfl) ?_)
    refine TQ.val rfl rfl rfl (gives_at (v := .pointer (some ⟨b2, o2 + i * 1, none⟩)) rfl rfl rfl (fun w => at_el Try.underlying31 urssz35 hA2 _ _ i (by omega) rfl w)) ?_
    refine TQ.on rfl rfl rfl ?_
    refine TQ.val rfl rfl rfl (gives_load (v := .int .u32 v) rfl rfl ursag35 (fun w1 hw => (hw.bel.cell hbb2).trans (by rw [Nat.mul_one]; exact hc2 _ _ (by unfold uv; rw [List.getElem?_map, hv]; rfl)))) ?_
    refine TQ.on rfl rfl rfl ?_
    refine TQ.val rfl rfl rfl (gives_bin rfl rfl rfl (fun w => bin_lss_f (p5) w)) ?_
    refine TQ.val rfl rfl rfl (gives_pick rfl rfl rfl) ?_
    exact TQ.end_
   refine TX.then_ (TC.condF rfl (TC.exit_ (TX.then_exit (TX.then_exit (TX.in_same (TX.then_ (TC.seq_ (TC.seq_ ?_))))))))
   rcases Classical.em (u = v) with p6 | p6
   ·have hsame : o = asc (xs.take (i + 1)) := by rw [List.take_add_one, hv]; exact (asc_old ho (by rw [← p6]; exact List.mem_of_getElem? hu)).symm
    refine TC.quiet_ (E' := ?_) (by kernel_rfl) (by kernel_rfl) (fun w hw => hw.drawn _) ?_ ?_
    rotate_left
    ·refine TQ.val rfl rfl rfl (gives_move rfl rfl) ?_
     refine TQ.val rfl rfl rfl (gives_move rfl rfl) ?_
     refine TQ.val rfl rfl rfl (gives_len rfl Try.underlying31 rfl) ?_
     refine TQ.val rfl rfl rfl (gives_bin rfl rfl rfl (fun w => bin_lss_t (by omega) w)) ?_
     iterate 6 (first | refine TQ.val rfl rfl rfl (gives_move rfl rfl) ?_ | refine TQ.on rfl rfl rfl ?_)
     refine TQ.val rfl rfl rfl (gives_at (v := .pointer (some ⟨go, k, none⟩)) rfl rfl rfl (fun w => at_row Try.underlying31 urssz35 go _ _ k (by omega) rfl w)) ?_
     refine TQ.on rfl rfl rfl ?_
     refine TQ.val rfl rfl rfl (pm_loadRow (k := 0) (i := k) rfl rfl ursag35 rfl (by unfold uv; rw [List.getElem?_map, hu]; rfl)) ?_
     iterate 5 (first | refine TQ.on rfl rfl rfl ?_ | refine TQ.val rfl rfl rfl (gives_move rfl rfl) ?_)
     refine TQ.val rfl rfl rfl (gives_at (v := .pointer (some ⟨b2, o2 + i * 1, none⟩)) rfl rfl rfl (fun w => at_el Try.underlying31 urssz35 hA2 _ _ i (by omega) rfl w)) ?_
     refine TQ.on rfl rfl rfl ?_
     refine TQ.val rfl rfl rfl (gives_load (v := .int .u32 v) rfl rfl ursag35 (fun w1 hw => (hw.bel.cell hbb2).trans (by rw [Nat.mul_one]; exact hc2 _ _ (by unfold uv; rw [List.getElem?_map, hv]; rfl)))) ?_
     refine TQ.on rfl rfl rfl ?_
     refine TQ.val rfl rfl rfl (gives_bin rfl rfl rfl (fun w => bin_eql_t (p6) w)) ?_
     refine TQ.val rfl rfl rfl (gives_pick rfl rfl rfl) ?_
     exact TQ.end_
    refine TX.then_ (TC.condT rfl (TC.exit_ (TX.then_exit (TX.in_same (TX.then_ (TC.region ?_))))))
    refine TL.mv ?_
    refine TL.val rfl rfl rfl (gives_bin rfl rfl rfl (fun w => bin_add_ (r := ((i + 1 : Nat) : Int)) (by simp only [IntKind.wrap_i64]; omega) w)) ?_
    refine TL.as_ ?_
    refine TL.end_ ?_
    exact TX.round (⟨(i + 1, (some ⟨go, 0, none⟩, co), o), by dsimp only; omega, hsame, hco, hcm⟩) (by show xs.length - (i + 1) < xs.length - i; omega) ⟨rfl, rfl, rfl, trivial⟩ (fun w1 hw => hw)
   ·have hins : o.take k ++ v :: o.drop k = asc (xs.take (i + 1)) := by rw [List.take_add_one, hv]; exact (asc_ins ho hk hlo (fun z hz => by rw [hu] at hz; cases hz; omega)).symm
    have hinl : (o.take k ++ v :: o.drop k).length = o.length + 1 := by rw [List.length_append, List.length_cons, List.length_take, List.length_drop]; omega
    refine TC.quiet_ (E' := ?_) (by kernel_rfl) (by kernel_rfl) (fun w hw => hw.drawn _) ?_ ?_
    rotate_left
    ·refine TQ.val rfl rfl rfl (gives_move rfl rfl) ?_
     refine TQ.val rfl rfl rfl (gives_move rfl rfl) ?_
     refine TQ.val rfl rfl rfl (gives_len rfl Try.underlying31 rfl) ?_
     refine TQ.val rfl rfl rfl (gives_bin rfl rfl rfl (fun w => bin_lss_t (by omega) w)) ?_
     iterate 6 (first | refine TQ.val rfl rfl rfl (gives_move rfl rfl) ?_ | refine TQ.on rfl rfl rfl ?_)
     refine TQ.val rfl rfl rfl (gives_at (v := .pointer (some ⟨go, k, none⟩)) rfl rfl rfl (fun w => at_row Try.underlying31 urssz35 go _ _ k (by omega) rfl w)) ?_
     refine TQ.on rfl rfl rfl ?_
     refine TQ.val rfl rfl rfl (pm_loadRow (k := 0) (i := k) rfl rfl ursag35 rfl (by unfold uv; rw [List.getElem?_map, hu]; rfl)) ?_
     iterate 5 (first | refine TQ.on rfl rfl rfl ?_ | refine TQ.val rfl rfl rfl (gives_move rfl rfl) ?_)
     refine TQ.val rfl rfl rfl (gives_at (v := .pointer (some ⟨b2, o2 + i * 1, none⟩)) rfl rfl rfl (fun w => at_el Try.underlying31 urssz35 hA2 _ _ i (by omega) rfl w)) ?_
     refine TQ.on rfl rfl rfl ?_
     refine TQ.val rfl rfl rfl (gives_load (v := .int .u32 v) rfl rfl ursag35 (fun w1 hw => (hw.bel.cell hbb2).trans (by rw [Nat.mul_one]; exact hc2 _ _ (by unfold uv; rw [List.getElem?_map, hv]; rfl)))) ?_
     refine TQ.on rfl rfl rfl ?_
     refine TQ.val rfl rfl rfl (gives_bin rfl rfl rfl (fun w => bin_eql_f (p6) w)) ?_
     refine TQ.val rfl rfl rfl (gives_pick rfl rfl rfl) ?_
     exact TQ.end_
    refine TX.then_ (TC.condF rfl (TC.skip_ (TX.then_ (TC.seq_ (TC.region ?_)))))
    refine TL.mv ?_
    refine TL.prowS (e := 35) (size := 1) (cs := uv [0]) rfl rfl rfl rfl rfl (fun w => ursbs31_1_5377 _ w) (by decide) rfl (fun g45 => ?_)
    refine TL.appendT (k := 1) rfl rfl rfl rfl Try.underlying31 ursel31 rfl rfl rfl (fun w1 hw => pm_reads hw (k := 0) rfl) (uv_one [0]) (by show _ * 4 ≤ _; omega) ((o.length + 1)) (rfl) (uv (o ++ [0])) ((uv_app _ _).symm) (fun A46 c46 hA461 hA462 => ?_)
    refine TL.fact (p := ∃ g, A46 = some ⟨g, 0, none⟩) (fun w1 hw => rowA hw (k := 1) rfl (by simp)) ?_
    rintro ⟨g9, rfl⟩
    refine TL.as_ ?_
    refine TL.end_ (TX.then_ (TC.seq_ ?_))
    refine TC.tail 7 (by kernel_rfl) (by kernel_rfl) (fun w hw => hw.drawn _) ?_
    refine TS.val rfl rfl rfl (gives_move rfl rfl) ?_
    refine TS.val rfl rfl rfl (gives_move rfl rfl) ?_
    refine TS.val rfl rfl rfl (gives_bin rfl rfl rfl (fun w => bin_add_ (r := ((k + 1 : Nat) : Int)) (by simp only [IntKind.wrap_i64]; omega) w)) ?_
    refine TS.val rfl rfl rfl (gives_sliceL (v := .slice (some ⟨g9, (if c46 = k + 1 then 0 else k + 1), none⟩) (o.length + 1 - (k + 1)) (c46 - (k + 1))) rfl rfl rfl (fun w => (cut_lo1 (P := Try.prog) Try.underlying31 urssz35 (some ⟨g9, 0, none⟩) (o.length + 1) c46 (k + 1) rfl (by omega) w).trans (by rw [off_if]))) ?_
    refine TS.val rfl rfl rfl (gives_move rfl rfl) ?_
    refine TS.val rfl rfl rfl (gives_move rfl rfl) ?_
    refine TS.val rfl rfl rfl (gives_tail (k := k) rfl rfl rfl rfl Try.underlying31 urssz35 (by omega) (by omega)) ?_
    refine TS.end_ ?_
    obtain ⟨t, ht⟩ := shift_mid o k c46 hk hA461
    refine TL.copyRow (k := 1) (cs := uv (o.drop k)) (m := o.length - k) (xs' := uv (o.take k ++ t :: o.drop k)) rfl rfl rfl rfl Try.underlying31 urssz35 rfl rfl rfl (fun w1 hw j u2 hj => by rw [show (⟨g9, k, none⟩ : Addr).add j = ⟨g9, k + j, none⟩ by unfold Addr.add; split <;> simp_all]; exact pm_row hw (k := 1) rfl (shift_src hj)) (by simp only [Nat.min_def]; split <;> omega) (by rw [uv_len, List.length_drop, Nat.mul_one]) (by rw [uv_len, uv_len, List.length_drop, List.length_append, List.length_singleton]; split <;> omega) (uv_one _) ht ?_
    try dsimp only [List.set_cons_zero, List.set_cons_succ]
    refine TL.end_ (TX.then_ (TC.region ?_))
    iterate 4 (first | refine TL.mv ?_)
    refine TL.val rfl rfl rfl (gives_at (v := .pointer (some ⟨b2, o2 + i * 1, none⟩)) rfl rfl rfl (fun w => at_el Try.underlying31 urssz35 hA2 _ _ i (by omega) rfl w)) ?_
    refine TL.val rfl rfl rfl (gives_load (v := .int .u32 v) rfl rfl ursag35 (fun w1 hw => (hw.bel.cell hbb2).trans (by rw [Nat.mul_one]; exact hc2 _ _ (by unfold uv; rw [List.getElem?_map, hv]; rfl)))) ?_
    refine TL.val rfl rfl rfl (gives_at (v := .pointer (some ⟨g9, k, none⟩)) rfl rfl rfl (fun w => at_row Try.underlying31 urssz35 g9 _ _ k (by omega) rfl w)) ?_
    refine TL.uset (k := 1) (i := k) rfl rfl rfl rfl rfl rfl urssz35 (by rw [List.length_append, List.length_cons, List.length_take, List.length_drop]; omega) ?_
    try dsimp only [List.set_cons_zero, List.set_cons_succ]
    rw [set_mid o v t hk]
    refine TL.end_ (TX.in_normal (TX.then_ (TC.region ?_)))
    refine TL.mv ?_
    refine TL.val rfl rfl rfl (gives_bin rfl rfl rfl (fun w => bin_add_ (r := ((i + 1 : Nat) : Int)) (by simp only [IntKind.wrap_i64]; omega) w)) ?_
    refine TL.as_ ?_
    refine TL.end_ ?_
    exact TX.round (⟨(i + 1, (some ⟨g9, 0, none⟩, c46), o.take k ++ v :: o.drop k), by dsimp only; omega, hins, by dsimp only; rw [hinl]; exact hA461, hA462⟩) (by show xs.length - (i + 1) < xs.length - i; omega) ⟨rfl, (by dsimp only; rw [hinl]; rfl), rfl, trivial⟩ (fun w1 hw => (by dsimp only; rw [hinl]; exact hw.pick [1] (by decide) rfl))
 ·have q9 := of_decide_eq_false h9
  obtain rfl : o = asc xs := by rw [ho, List.take_of_length_le (by omega)]
  refine TL.end_ (TX.then_ (TC.condF rfl (TC.exit_ (TX.then_exit (TX.then_exit (TX.in_same (TX.then_ (TC.seq_ (TC.region ?_)))))))))
  refine TL.mv ?_
  refine TL.as_ ?_
  refine TL.end_ (TX.then_ (TC.ret_ ?_))
  exact ret_tmp Try.results44 rfl (fun w1 hw => ⟨⟨(Ao, co), hco, hcm⟩, rfl, hw⟩)
end Go.Proofs.Ytleckflmckbheaa

namespace Go.Proofs.Ytleckflmckbheaa
open Go.RowKit
set_option maxRecDepth 20000
theorem lt_at {o : List Int} {i : Nat} {u : Int} (h : o[i]? = some u) : i < o.length := (List.getElem?_eq_some_iff.1 h).1
theorem addU_mem (o : List Int) (b : Int) : b ∈ addU o b := by
 unfold addU
 split
 ·assumption
 ·exact List.mem_append_right _ List.mem_cons_self
theorem addU_sub {o : List Int} (b : Int) {x : Int} (h : x ∈ o) : x ∈ addU o b := by
 unfold addU
 split
 ·exact h
 ·exact List.mem_append_left _ h
theorem addU_at {o : List Int} (b : Int) {p : Nat} {u : Int} (h : o[p]? = some u) : (addU o b)[p]? = some u := by
 unfold addU
 split
 ·exact h
 ·rw [List.getElem?_append_left (lt_at h)]; exact h
theorem addU_of {o : List Int} {b x : Int} (h : x ∈ addU o b) : x ∈ o ∨ x = b := by
 unfold addU at h
 split at h
 ·exact .inl h
 ·exact (List.mem_append.1 h).imp id List.mem_singleton.1
structure ClI (l : List Fc) (a : Int) (i : Nat) (o : List Int) : Prop where
 nd : o.Nodup
 hd : a ∈ o
 sub : ∀ x ∈ o, Conn l a x ∧ x ∈ a :: adrs l
 cl : ∀ (p : Nat) (u : Int), p < i → o[p]? = some u → ∀ f ∈ l, (f.a = u → f.b ∈ o) ∧ (f.b = u → f.a ∈ o)
def InI (l : List Fc) (a : Int) (i : Nat) (u : Int) (k : Nat) (o : List Int) : Prop := ClI l a i o ∧ o[i]? = some u ∧ ∀ f ∈ l.take k, (f.a = u → f.b ∈ o) ∧ (f.b = u → f.a ∈ o)
theorem ClI.start (l : List Fc) (a : Int) : ClI l a 0 [a] := ⟨by simp, List.mem_cons_self, fun x hx => by rw [List.mem_singleton.1 hx]; exact ⟨.refl a, List.mem_cons_self⟩, fun p _ hp => absurd hp (Nat.not_lt_zero p)⟩
theorem sub_len : ∀ {o s : List Int}, o.Nodup → (∀ x ∈ o, x ∈ s) → o.length ≤ s.length
 | [], s, _, _ => Nat.zero_le _
 | x :: o, s, hn, hs => by
  have h1 := List.nodup_cons.1 hn
  have hx : x ∈ s := hs x List.mem_cons_self
  have h2 : o.length ≤ (s.erase x).length := sub_len h1.2 fun y hy => (List.mem_erase_of_ne (fun e => h1.1 (by rw [← e]; exact hy))).2 (hs y (List.mem_cons_of_mem _ hy))
  rw [List.length_erase_of_mem hx] at h2
  have := List.length_pos_of_mem hx
  simp only [List.length_cons]
  omega
theorem ClI.len {l : List Fc} {a : Int} {i : Nat} {o : List Int} (h : ClI l a i o) : o.length ≤ 2 * l.length + 1 := by
 have h1 := sub_len h.nd fun x hx => (h.sub x hx).2
 rw [List.length_cons, adrs_len] at h1
 exact h1
theorem ClI.add {l : List Fc} {a : Int} {i : Nat} {o : List Int} (h : ClI l a i o) (hi : i ≤ o.length) {b : Int} (hc : Conn l a b) (hb : b ∈ a :: adrs l) : ClI l a i (addU o b) := by
 refine ⟨?_, addU_sub b h.hd, fun x hx => (addU_of hx).elim (h.sub x) (fun e => by rw [e]; exact ⟨hc, hb⟩), fun p u hp hu f hf => ?_⟩
 ·unfold addU
  split
  ·exact h.nd
  ·rename_i hn
   exact List.nodup_append.2 ⟨h.nd, by simp, fun x hx y hy => by rw [List.mem_singleton.1 hy]; exact fun e => hn (by rw [← e]; exact hx)⟩
 ·have hu2 : o[p]? = some u := by
   obtain ⟨z, hz⟩ : ∃ z, o[p]? = some z := ⟨_, List.getElem?_eq_getElem (by omega)⟩
   rw [addU_at b hz] at hu
   rw [hz, hu]
  exact ⟨fun e => addU_sub b ((h.cl p u hp hu2 f hf).1 e), fun e => addU_sub b ((h.cl p u hp hu2 f hf).2 e)⟩
theorem InI.add {l : List Fc} {a u : Int} {i k : Nat} {o : List Int} (h : InI l a i u k o) {b : Int} (hc : Conn l a b) (hb : b ∈ a :: adrs l) : InI l a i u k (addU o b) :=
 ⟨h.1.add (Nat.le_of_lt (lt_at h.2.1)) hc hb, addU_at b h.2.1, fun f hf => ⟨fun e => addU_sub b ((h.2.2 f hf).1 e), fun e => addU_sub b ((h.2.2 f hf).2 e)⟩⟩
theorem InI.step {l : List Fc} {a u : Int} {i k : Nat} {o : List Int} (h : InI l a i u k o) {x : Fc} (hx : l[k]? = some x) (h1 : x.a = u → x.b ∈ o) (h2 : x.b = u → x.a ∈ o) : InI l a i u (k + 1) o := by
 refine ⟨h.1, h.2.1, fun f hf => ?_⟩
 rw [List.take_add_one, hx] at hf
 rcases List.mem_append.1 hf with hf | hf
 ·exact h.2.2 f hf
 ·rw [List.mem_singleton.1 hf]
  exact ⟨h1, h2⟩
theorem InI.next {l : List Fc} {a u : Int} {i : Nat} {o : List Int} (h : InI l a i u l.length o) : ClI l a (i + 1) o := by
 refine ⟨h.1.nd, h.1.hd, h.1.sub, fun p z hp hz => ?_⟩
 rcases Nat.lt_or_ge p i with hh | hh
 ·exact h.1.cl p z hh hz
 ·obtain rfl : p = i := by omega
  have := h.2.1
  rw [hz] at this
  cases this
  have h3 := h.2.2
  rw [List.take_length] at h3
  exact h3
noncomputable def compF (l : List Fc) (a : Int) : List Int := asc ((a :: adrs l).filter fun x => decide (repF l a = repF l x))
theorem ClI.closed {l : List Fc} {a : Int} {o : List Int} (h : ClI l a o.length o) {x y : Int} (hc : Conn l x y) : x ∈ o ↔ y ∈ o := by
 have key : ∀ u ∈ o, ∀ f ∈ l, (f.a = u → f.b ∈ o) ∧ (f.b = u → f.a ∈ o) := by
  intro u hu
  obtain ⟨p, hp⟩ := List.getElem?_of_mem hu
  exact h.cl p u (lt_at hp) hp
 induction hc with
 | refl a => exact Iff.rfl
 | fact hf => exact ⟨fun hh => (key _ hh _ hf).1 rfl, fun hh => (key _ hh _ hf).2 rfl⟩
 | symm _ ih => exact ih.symm
 | trans _ _ ih1 ih2 => exact ih1.trans ih2
theorem ClI.fin {l : List Fc} {a : Int} {i : Nat} {o : List Int} (h : ClI l a i o) (hi : o.length ≤ i) : asc o = compF l a := by
 have h2 : ClI l a o.length o := ⟨h.nd, h.hd, h.sub, fun p u hp => h.cl p u (by omega)⟩
 refine asc_same fun x => ?_
 rw [List.mem_filter]
 constructor
 ·intro hx
  exact ⟨(h.sub x hx).2, decide_eq_true ((rep_conn _ _ _).2 (h.sub x hx).1)⟩
 ·rintro ⟨_, hd⟩
  exact (h2.closed ((rep_conn _ _ _).1 (of_decide_eq_true hd))).1 h.hd
theorem conn_adr {l : List Fc} {a b : Int} (h : Conn l a b) : a = b ∨ (a ∈ adrs l ∧ b ∈ adrs l) := by
 induction h with
 | refl a => exact .inl rfl
 | fact hf => exact .inr ⟨mem_adrs.2 ⟨_, hf, .inl rfl⟩, mem_adrs.2 ⟨_, hf, .inr rfl⟩⟩
 | symm _ ih => exact ih.imp Eq.symm And.symm
 | trans _ _ ih1 ih2 =>
  rcases ih1 with e | ih1
  ·rw [e]; exact ih2
  ·rcases ih2 with e | ih2
   ·rw [← e]; exact .inr ih1
   ·exact .inr ⟨ih1.1, ih2.2⟩
theorem mem_comp {l : List Fc} {a b : Int} : b ∈ compF l a ↔ repF l a = repF l b := by
 unfold compF
 rw [mem_asc, List.mem_filter]
 refine ⟨fun h => of_decide_eq_true h.2, fun h => ⟨?_, decide_eq_true h⟩⟩
 rcases conn_adr ((rep_conn _ _ _).1 h) with e | h1
 ·rw [e]; exact List.mem_cons_self
 ·exact List.mem_cons_of_mem _ h1.2
theorem urksz35 (w : World) : (sizeOf 35).run Try.prog w = .ok 1 w := rfl
theorem urksz42 (w : World) : (sizeOf 42).run Try.prog w = .ok 3 w := rfl
theorem urkbs31_1_5377 (a0_0 : Int) (w : World) : (Instr.buildSlice 31 1 #[(0, .int .u32 a0_0)]).run Try.prog w = .ok (.slice (some ⟨w.heap.size, 0, none⟩) 1 1) (w.alloc (.cells [.int .u32 a0_0].toArray 35)) := by kernel_rfl
theorem urkfld42_1 (g o : Nat) (w : World) : (Instr.fieldAt 42 (.pointer (some ⟨g, o, none⟩)) 1).run Try.prog w = .ok (.pointer (some ⟨g, o + 1, none⟩)) w := by kernel_rfl
theorem urkag35 (w : World) : (isAgg 35).run Try.prog w = .ok false w := rfl
theorem urkfld42_2 (g o : Nat) (w : World) : (Instr.fieldAt 42 (.pointer (some ⟨g, o, none⟩)) 2).run Try.prog w = .ok (.pointer (some ⟨g, o + 2, none⟩)) w := by kernel_rfl
theorem urknm55 : (Try.f55.name == "runtime.NumGoroutine") = false := by decide
theorem urkbd55 : Try.f55.body.isNone = false := rfl
theorem urknm44 : (Try.f44.name == "runtime.NumGoroutine") = false := by decide
theorem urkbd44 : Try.f44.body.isNone = false := rfl
set_option maxHeartbeats 1000000 in
theorem rcls_any (A0 : Option Addr) (n0 c0 : Nat) (l : List Fc) (w : World) (hr : Reads w w.heap.size 3 A0 n0 (fcs l)) (hl : l.length = n0) (hl1 : l.length ≤ 1024) (a : Int) :
  Calls Try.prog 46 #[.slice A0 n0 c0, .int .u32 a] w fun e w' => ∃ y : {p : Option Addr × Nat // (compF l a).length ≤ p.2 ∧ p.2 ≤ maxLen}, e = .returned (.slice y.1.1 (compF l a).length y.1.2) ∧ Pm w [.row (.slice y.1.1 (compF l a).length y.1.2) 35 1 (compF l a).length (uv (compF l a))] w' := by
 subst hl
 refine begin_ (vs := [.slice A0 l.length c0, .int .u32 a]) Try.func46 rfl rfl rfl ?_ (Pm.start w)
 refine TC.seq_ (TC.region ?_)
 refine TL.as_ ?_
 refine TL.end_ (TX.then_ (TC.seq_ (TC.region ?_)))
 refine TL.mv ?_
 refine TL.prowS (e := 35) (size := 1) (cs := uv [a]) rfl rfl rfl rfl rfl (fun w => urkbs31_1_5377 _ w) (by decide) rfl (fun g9 => ?_)
 refine TL.as_ ?_
 refine TL.end_ (TX.then_ (TC.seq_ (TC.seq_ (TC.region ?_))))
 refine TL.as_ ?_
 refine TL.end_ (TX.then_ (TC.block ?_))
 refine TC.loop_ (α := {y : Nat × (Option Addr × Nat) × List Int // y.1 ≤ y.2.2.length ∧ ClI l a y.1 y.2.2 ∧ y.2.2.length ≤ y.2.1.2 ∧ y.2.1.2 ≤ maxLen}) (fun y => [(0, .slice A0 l.length c0), (5, .slice y.1.2.1.1 y.1.2.2.length y.1.2.1.2), (6, .int .i64 ((y.1.1 : Nat) : Int))]) (fun y => Pm w [.row (.slice y.1.2.1.1 y.1.2.2.length y.1.2.1.2) 35 1 y.1.2.2.length (uv y.1.2.2)]) (fun y => 2 * l.length + 2 - y.1.1) (⟨(0, (some ⟨g9, 0, none⟩, 1), [a]), Nat.zero_le _, ClI.start l a, Nat.le_refl _, by show 1 ≤ maxLen; decide⟩) ⟨rfl, rfl, rfl, trivial⟩ (fun w1 hw => hw) ?_
 rintro ⟨⟨i, ⟨Ao, co⟩, o⟩, hi, hC, hco, hcm⟩
 dsimp only at hi hC hco hcm ⊢
 refine TC.seq_ (TC.seq_ (TC.region ?_))
 refine TL.mv ?_
 refine TL.mv ?_
 refine TL.val rfl rfl rfl (gives_len rfl Try.underlying31 rfl) ?_
 refine TL.vsplit rfl rfl rfl (gives_bin rfl rfl rfl (fun w => bin_lss w)) (fun h13 => ?_) (fun h13 => ?_)
 ·have q13 := of_decide_eq_true h13
  have hle0 := hC.len
  obtain ⟨u, hu⟩ : ∃ u, o[i]? = some u := ⟨_, List.getElem?_eq_getElem (by omega)⟩
  refine TL.end_ (TX.then_ (TC.condT rfl (TC.skip_ (TX.then_ (TC.seq_ (TC.block (TC.seq_ (TC.region ?_))))))))
  refine TL.as_ ?_
  refine TL.end_ (TX.then_ (TC.block ?_))
  refine TC.loop_ (α := {y : Nat × (Option Addr × Nat) × List Int // y.1 ≤ l.length ∧ InI l a i u y.1 y.2.2 ∧ y.2.2.length ≤ y.2.1.2 ∧ y.2.1.2 ≤ maxLen}) (fun y => [(0, .slice A0 l.length c0), (5, .slice y.1.2.1.1 y.1.2.2.length y.1.2.1.2), (6, .int .i64 ((i : Nat) : Int)), (7, .int .i64 ((y.1.1 : Nat) : Int))]) (fun y => Pm w [.row (.slice y.1.2.1.1 y.1.2.2.length y.1.2.1.2) 35 1 y.1.2.2.length (uv y.1.2.2)]) (fun y => l.length - y.1.1) (⟨(0, (Ao, co), o), Nat.zero_le _, ⟨hC, hu, fun f hf => absurd hf List.not_mem_nil⟩, hco, hcm⟩) ⟨rfl, rfl, rfl, rfl, trivial⟩ (fun w1 hw => hw) ?_
  rintro ⟨⟨k, ⟨Ai, ci⟩, oi⟩, hk, hI, hci, hcm2⟩
  dsimp only at hk hI hci hcm2 ⊢
  refine TC.seq_ (TC.seq_ (TC.region ?_))
  refine TL.mv ?_
  refine TL.mv ?_
  refine TL.val rfl rfl rfl (gives_len rfl Try.underlying26 rfl) ?_
  refine TL.vsplit rfl rfl rfl (gives_bin rfl rfl rfl (fun w => bin_lss w)) (fun h19 => ?_) (fun h19 => ?_)
  ·have q19 := of_decide_eq_true h19
   have hk2 : k < l.length := by omega
   obtain ⟨x, hx⟩ : ∃ x, l[k]? = some x := ⟨_, List.getElem?_eq_getElem hk2⟩
   have hxm := List.mem_of_getElem? hx
   obtain ⟨b2, o2, hA2, hbb2, hc2⟩ := hr.ad (by omega) (by decide)
   refine TL.fact (p := ∃ g, Ai = some ⟨g, 0, none⟩) (fun w1 hw => rowA hw (k := 0) rfl (Nat.lt_of_le_of_lt (Nat.zero_le _) (lt_at hI.2.1))) ?_
   rintro ⟨gi, rfl⟩
   refine TL.end_ (TX.then_ (TC.condT rfl (TC.skip_ (TX.then_ (TC.seq_ (TC.block (TC.seq_ (TC.seq_ ?_))))))))
   rcases Classical.em (x.a = u) with q31 | q31
   ·refine TC.quiet_ (E' := ?_) (by kernel_rfl) (by kernel_rfl) (fun w hw => hw.drawn _) ?_ ?_
    rotate_left
    ·refine TQ.val rfl rfl rfl (gives_move rfl rfl) ?_
     refine TQ.val rfl rfl rfl (gives_move rfl rfl) ?_
     refine TQ.val rfl rfl rfl (gives_at (v := .pointer (some ⟨b2, o2 + k * 3, none⟩)) rfl rfl rfl (fun w => at_el Try.underlying26 urksz42 hA2 _ _ k hk2 rfl w)) ?_
     refine TQ.val rfl rfl rfl (gives_field (v := .pointer (some ⟨b2, o2 + k * 3 + 1, none⟩)) rfl rfl (fun w => urkfld42_1 _ _ w)) ?_
     refine TQ.val rfl rfl rfl (gives_load (v := .int .u32 x.a) rfl rfl urkag35 (fun w1 hw => (hw.bel.cell hbb2).trans (fcs_cell hx hc2 1 _ rfl))) ?_
     refine TQ.val rfl rfl rfl (gives_move rfl rfl) ?_
     refine TQ.val rfl rfl rfl (gives_move rfl rfl) ?_
     refine TQ.val rfl rfl rfl (gives_at (v := .pointer (some ⟨gi, i, none⟩)) rfl rfl rfl (fun w => at_row Try.underlying31 urksz35 gi _ _ i (lt_at hI.2.1) rfl w)) ?_
     refine TQ.val rfl rfl rfl (pm_loadRow (k := 0) (i := i) rfl rfl urkag35 rfl (by unfold uv; rw [List.getElem?_map, hI.2.1]; rfl)) ?_
     refine TQ.val rfl rfl rfl (gives_bin rfl rfl rfl (fun w => bin_eql_t (q31) w)) ?_
     exact TQ.end_
    refine TX.then_ (TC.condT rfl (TC.region ?_))
    refine TL.mv ?_
    refine TL.mv ?_
    refine TL.mv ?_
    refine TL.val rfl rfl rfl (gives_at (v := .pointer (some ⟨b2, o2 + k * 3, none⟩)) rfl rfl rfl (fun w => at_el Try.underlying26 urksz42 hA2 _ _ k hk2 rfl w)) ?_
    refine TL.val rfl rfl rfl (gives_field (v := .pointer (some ⟨b2, o2 + k * 3 + 2, none⟩)) rfl rfl (fun w => urkfld42_2 _ _ w)) ?_
    refine TL.val rfl rfl rfl (gives_load (v := .int .u32 x.b) rfl rfl urkag35 (fun w1 hw => (hw.bel.cell hbb2).trans (fcs_cell hx hc2 2 _ rfl))) ?_
    have hcb : Conn l a x.b := (hI.1.sub u (List.mem_of_getElem? hI.2.1)).1.trans (q31 ▸ Conn.fact hxm)
    have hmb : x.b ∈ a :: adrs l := List.mem_cons_of_mem _ (mem_adrs.2 ⟨x, hxm, .inr rfl⟩)
    obtain ⟨o1, hz1⟩ : ∃ z, addU oi x.b = z := ⟨_, rfl⟩
    have hI1 : InI l a i u k o1 := by rw [← hz1]; exact hI.add hcb hmb
    have hle1 := hI.1.len
    refine TL.pcallGrow (k := 0) (M := o1.length) (ys := uv o1) rfl rfl rfl rfl rfl Try.func55 urknm55 urkbd55 rfl (fun w1 hw hr1 => addu_any _ (some ⟨gi, 0, none⟩) ci oi x.b w1 hr1 hw.base (by omega) hz1) (fun A1 c1 hA11 hA12 => ?_)
    try dsimp only [List.set_cons_zero, List.set_cons_succ]
    refine TL.fact (p := ∃ g, A1 = some ⟨g, 0, none⟩) (fun w1 hw => rowA hw (k := 0) rfl (Nat.lt_of_le_of_lt (Nat.zero_le _) (lt_at hI1.2.1))) ?_
    rintro ⟨g1, rfl⟩
    have hA1 : x.a = u → x.b ∈ o1 := fun _ => by rw [← hz1]; exact addU_mem _ _
    refine TL.as_ ?_
    refine TL.end_ (TX.then_ (TC.seq_ ?_))
    rcases Classical.em (x.b = u) with q48 | q48
    ·refine TC.quiet_ (E' := ?_) (by kernel_rfl) (by kernel_rfl) (fun w hw => hw.drawn _) ?_ ?_
     rotate_left
     ·refine TQ.val rfl rfl rfl (gives_move rfl rfl) ?_
      refine TQ.val rfl rfl rfl (gives_move rfl rfl) ?_
      refine TQ.val rfl rfl rfl (gives_at (v := .pointer (some ⟨b2, o2 + k * 3, none⟩)) rfl rfl rfl (fun w => at_el Try.underlying26 urksz42 hA2 _ _ k hk2 rfl w)) ?_
      refine TQ.val rfl rfl rfl (gives_field (v := .pointer (some ⟨b2, o2 + k * 3 + 2, none⟩)) rfl rfl (fun w => urkfld42_2 _ _ w)) ?_
      refine TQ.val rfl rfl rfl (gives_load (v := .int .u32 x.b) rfl rfl urkag35 (fun w1 hw => (hw.bel.cell hbb2).trans (fcs_cell hx hc2 2 _ rfl))) ?_
      refine TQ.val rfl rfl rfl (gives_move rfl rfl) ?_
      refine TQ.val rfl rfl rfl (gives_move rfl rfl) ?_
      refine TQ.val rfl rfl rfl (gives_at (v := .pointer (some ⟨g1, i, none⟩)) rfl rfl rfl (fun w => at_row Try.underlying31 urksz35 g1 _ _ i (lt_at hI1.2.1) rfl w)) ?_
      refine TQ.val rfl rfl rfl (pm_loadRow (k := 0) (i := i) rfl rfl urkag35 rfl (by unfold uv; rw [List.getElem?_map, hI1.2.1]; rfl)) ?_
      refine TQ.val rfl rfl rfl (gives_bin rfl rfl rfl (fun w => bin_eql_t (q48) w)) ?_
      exact TQ.end_
     refine TX.then_ (TC.condT rfl (TC.region ?_))
     refine TL.mv ?_
     refine TL.mv ?_
     refine TL.mv ?_
     refine TL.val rfl rfl rfl (gives_at (v := .pointer (some ⟨b2, o2 + k * 3, none⟩)) rfl rfl rfl (fun w => at_el Try.underlying26 urksz42 hA2 _ _ k hk2 rfl w)) ?_
     refine TL.val rfl rfl rfl (gives_field (v := .pointer (some ⟨b2, o2 + k * 3 + 1, none⟩)) rfl rfl (fun w => urkfld42_1 _ _ w)) ?_
     refine TL.val rfl rfl rfl (gives_load (v := .int .u32 x.a) rfl rfl urkag35 (fun w1 hw => (hw.bel.cell hbb2).trans (fcs_cell hx hc2 1 _ rfl))) ?_
     have hcb : Conn l a x.a := (hI1.1.sub u (List.mem_of_getElem? hI1.2.1)).1.trans (q48 ▸ (Conn.fact hxm).symm)
     have hmb : x.a ∈ a :: adrs l := List.mem_cons_of_mem _ (mem_adrs.2 ⟨x, hxm, .inl rfl⟩)
     obtain ⟨o2, hz2⟩ : ∃ z, addU o1 x.a = z := ⟨_, rfl⟩
     have hI2 : InI l a i u k o2 := by rw [← hz2]; exact hI1.add hcb hmb
     have hle2 := hI1.1.len
     refine TL.pcallGrow (k := 0) (M := o2.length) (ys := uv o2) rfl rfl rfl rfl rfl Try.func55 urknm55 urkbd55 rfl (fun w1 hw hr1 => addu_any _ (some ⟨g1, 0, none⟩) c1 o1 x.a w1 hr1 hw.base (by omega) hz2) (fun A2 c2 hA21 hA22 => ?_)
     try dsimp only [List.set_cons_zero, List.set_cons_succ]
     refine TL.fact (p := ∃ g, A2 = some ⟨g, 0, none⟩) (fun w1 hw => rowA hw (k := 0) rfl (Nat.lt_of_le_of_lt (Nat.zero_le _) (lt_at hI2.2.1))) ?_
     rintro ⟨g2, rfl⟩
     have hA2 : x.a = u → x.b ∈ o2 := fun hh => by rw [← hz2]; exact addU_sub _ (hA1 hh)
     have hB2 : x.b = u → x.a ∈ o2 := fun _ => by rw [← hz2]; exact addU_mem _ _
     refine TL.as_ ?_
     refine TL.end_ (TX.in_normal (TX.then_ (TC.region ?_)))
     refine TL.mv ?_
     refine TL.val rfl rfl rfl (gives_bin rfl rfl rfl (fun w => bin_add_ (r := ((k + 1 : Nat) : Int)) (by simp only [IntKind.wrap_i64]; omega) w)) ?_
     refine TL.as_ ?_
     refine TL.end_ ?_
     exact TX.round (⟨(k + 1, ((some ⟨g2, 0, none⟩), c2), o2), by dsimp only; omega, hI2.step hx hA2 hB2, hA21, hA22⟩) (by show l.length - (k + 1) < l.length - k; omega) ⟨rfl, rfl, rfl, rfl, trivial⟩ (fun w1 hw => hw)
    ·have hB0 : x.b = u → x.a ∈ o1 := fun hh => absurd hh q48
     refine TC.quiet_ (E' := ?_) (by kernel_rfl) (by kernel_rfl) (fun w hw => hw.drawn _) ?_ ?_
     rotate_left
     ·refine TQ.val rfl rfl rfl (gives_move rfl rfl) ?_
      refine TQ.val rfl rfl rfl (gives_move rfl rfl) ?_
      refine TQ.val rfl rfl rfl (gives_at (v := .pointer (some ⟨b2, o2 + k * 3, none⟩)) rfl rfl rfl (fun w => at_el Try.underlying26 urksz42 hA2 _ _ k hk2 rfl w)) ?_
      refine TQ.val rfl rfl rfl (gives_field (v := .pointer (some ⟨b2, o2 + k * 3 + 2, none⟩)) rfl rfl (fun w => urkfld42_2 _ _ w)) ?_
      refine TQ.val rfl rfl rfl (gives_load (v := .int .u32 x.b) rfl rfl urkag35 (fun w1 hw => (hw.bel.cell hbb2).trans (fcs_cell hx hc2 2 _ rfl))) ?_
      refine TQ.val rfl rfl rfl (gives_move rfl rfl) ?_
      refine TQ.val rfl rfl rfl (gives_move rfl rfl) ?_
      refine TQ.val rfl rfl rfl (gives_at (v := .pointer (some ⟨g1, i, none⟩)) rfl rfl rfl (fun w => at_row Try.underlying31 urksz35 g1 _ _ i (lt_at hI1.2.1) rfl w)) ?_
      refine TQ.val rfl rfl rfl (pm_loadRow (k := 0) (i := i) rfl rfl urkag35 rfl (by unfold uv; rw [List.getElem?_map, hI1.2.1]; rfl)) ?_
      refine TQ.val rfl rfl rfl (gives_bin rfl rfl rfl (fun w => bin_eql_f (q48) w)) ?_
      exact TQ.end_
     refine TX.then_ (TC.condF rfl (TC.skip_ (TX.in_normal (TX.then_ (TC.region ?_)))))
     refine TL.mv ?_
     refine TL.val rfl rfl rfl (gives_bin rfl rfl rfl (fun w => bin_add_ (r := ((k + 1 : Nat) : Int)) (by simp only [IntKind.wrap_i64]; omega) w)) ?_
     refine TL.as_ ?_
     refine TL.end_ ?_
     exact TX.round (⟨(k + 1, ((some ⟨g1, 0, none⟩), c1), o1), by dsimp only; omega, hI1.step hx hA1 hB0, hA11, hA12⟩) (by show l.length - (k + 1) < l.length - k; omega) ⟨rfl, rfl, rfl, rfl, trivial⟩ (fun w1 hw => hw)
   ·have hA0 : x.a = u → x.b ∈ oi := fun hh => absurd hh q31
    refine TC.quiet_ (E' := ?_) (by kernel_rfl) (by kernel_rfl) (fun w hw => hw.drawn _) ?_ ?_
    rotate_left
    ·refine TQ.val rfl rfl rfl (gives_move rfl rfl) ?_
     refine TQ.val rfl rfl rfl (gives_move rfl rfl) ?_
     refine TQ.val rfl rfl rfl (gives_at (v := .pointer (some ⟨b2, o2 + k * 3, none⟩)) rfl rfl rfl (fun w => at_el Try.underlying26 urksz42 hA2 _ _ k hk2 rfl w)) ?_
     refine TQ.val rfl rfl rfl (gives_field (v := .pointer (some ⟨b2, o2 + k * 3 + 1, none⟩)) rfl rfl (fun w => urkfld42_1 _ _ w)) ?_
     refine TQ.val rfl rfl rfl (gives_load (v := .int .u32 x.a) rfl rfl urkag35 (fun w1 hw => (hw.bel.cell hbb2).trans (fcs_cell hx hc2 1 _ rfl))) ?_
     refine TQ.val rfl rfl rfl (gives_move rfl rfl) ?_
     refine TQ.val rfl rfl rfl (gives_move rfl rfl) ?_
     refine TQ.val rfl rfl rfl (gives_at (v := .pointer (some ⟨gi, i, none⟩)) rfl rfl rfl (fun w => at_row Try.underlying31 urksz35 gi _ _ i (lt_at hI.2.1) rfl w)) ?_
     refine TQ.val rfl rfl rfl (pm_loadRow (k := 0) (i := i) rfl rfl urkag35 rfl (by unfold uv; rw [List.getElem?_map, hI.2.1]; rfl)) ?_
     refine TQ.val rfl rfl rfl (gives_bin rfl rfl rfl (fun w => bin_eql_f (q31) w)) ?_
     exact TQ.end_
    refine TX.then_ (TC.condF rfl (TC.skip_ (TX.then_ (TC.seq_ ?_))))
    rcases Classical.em (x.b = u) with q48 | q48
    ·refine TC.quiet_ (E' := ?_) (by kernel_rfl) (by kernel_rfl) (fun w hw => hw.drawn _) ?_ ?_
     rotate_left
     ·refine TQ.val rfl rfl rfl (gives_move rfl rfl) ?_
      refine TQ.val rfl rfl rfl (gives_move rfl rfl) ?_
      refine TQ.val rfl rfl rfl (gives_at (v := .pointer (some ⟨b2, o2 + k * 3, none⟩)) rfl rfl rfl (fun w => at_el Try.underlying26 urksz42 hA2 _ _ k hk2 rfl w)) ?_
      refine TQ.val rfl rfl rfl (gives_field (v := .pointer (some ⟨b2, o2 + k * 3 + 2, none⟩)) rfl rfl (fun w => urkfld42_2 _ _ w)) ?_
      refine TQ.val rfl rfl rfl (gives_load (v := .int .u32 x.b) rfl rfl urkag35 (fun w1 hw => (hw.bel.cell hbb2).trans (fcs_cell hx hc2 2 _ rfl))) ?_
      refine TQ.val rfl rfl rfl (gives_move rfl rfl) ?_
      refine TQ.val rfl rfl rfl (gives_move rfl rfl) ?_
      refine TQ.val rfl rfl rfl (gives_at (v := .pointer (some ⟨gi, i, none⟩)) rfl rfl rfl (fun w => at_row Try.underlying31 urksz35 gi _ _ i (lt_at hI.2.1) rfl w)) ?_
      refine TQ.val rfl rfl rfl (pm_loadRow (k := 0) (i := i) rfl rfl urkag35 rfl (by unfold uv; rw [List.getElem?_map, hI.2.1]; rfl)) ?_
      refine TQ.val rfl rfl rfl (gives_bin rfl rfl rfl (fun w => bin_eql_t (q48) w)) ?_
      exact TQ.end_
     refine TX.then_ (TC.condT rfl (TC.region ?_))
     refine TL.mv ?_
     refine TL.mv ?_
     refine TL.mv ?_
     refine TL.val rfl rfl rfl (gives_at (v := .pointer (some ⟨b2, o2 + k * 3, none⟩)) rfl rfl rfl (fun w => at_el Try.underlying26 urksz42 hA2 _ _ k hk2 rfl w)) ?_
     refine TL.val rfl rfl rfl (gives_field (v := .pointer (some ⟨b2, o2 + k * 3 + 1, none⟩)) rfl rfl (fun w => urkfld42_1 _ _ w)) ?_
     refine TL.val rfl rfl rfl (gives_load (v := .int .u32 x.a) rfl rfl urkag35 (fun w1 hw => (hw.bel.cell hbb2).trans (fcs_cell hx hc2 1 _ rfl))) ?_
     have hcb : Conn l a x.a := (hI.1.sub u (List.mem_of_getElem? hI.2.1)).1.trans (q48 ▸ (Conn.fact hxm).symm)
     have hmb : x.a ∈ a :: adrs l := List.mem_cons_of_mem _ (mem_adrs.2 ⟨x, hxm, .inl rfl⟩)
     obtain ⟨o2, hz2⟩ : ∃ z, addU oi x.a = z := ⟨_, rfl⟩
     have hI2 : InI l a i u k o2 := by rw [← hz2]; exact hI.add hcb hmb
     have hle2 := hI.1.len
     refine TL.pcallGrow (k := 0) (M := o2.length) (ys := uv o2) rfl rfl rfl rfl rfl Try.func55 urknm55 urkbd55 rfl (fun w1 hw hr1 => addu_any _ (some ⟨gi, 0, none⟩) ci oi x.a w1 hr1 hw.base (by omega) hz2) (fun A2 c2 hA21 hA22 => ?_)
     try dsimp only [List.set_cons_zero, List.set_cons_succ]
     refine TL.fact (p := ∃ g, A2 = some ⟨g, 0, none⟩) (fun w1 hw => rowA hw (k := 0) rfl (Nat.lt_of_le_of_lt (Nat.zero_le _) (lt_at hI2.2.1))) ?_
     rintro ⟨g2, rfl⟩
     have hA2 : x.a = u → x.b ∈ o2 := fun hh => by rw [← hz2]; exact addU_sub _ (hA0 hh)
     have hB2 : x.b = u → x.a ∈ o2 := fun _ => by rw [← hz2]; exact addU_mem _ _
     refine TL.as_ ?_
     refine TL.end_ (TX.in_normal (TX.then_ (TC.region ?_)))
     refine TL.mv ?_
     refine TL.val rfl rfl rfl (gives_bin rfl rfl rfl (fun w => bin_add_ (r := ((k + 1 : Nat) : Int)) (by simp only [IntKind.wrap_i64]; omega) w)) ?_
     refine TL.as_ ?_
     refine TL.end_ ?_
     exact TX.round (⟨(k + 1, ((some ⟨g2, 0, none⟩), c2), o2), by dsimp only; omega, hI2.step hx hA2 hB2, hA21, hA22⟩) (by show l.length - (k + 1) < l.length - k; omega) ⟨rfl, rfl, rfl, rfl, trivial⟩ (fun w1 hw => hw)
    ·have hB0 : x.b = u → x.a ∈ oi := fun hh => absurd hh q48
     refine TC.quiet_ (E' := ?_) (by kernel_rfl) (by kernel_rfl) (fun w hw => hw.drawn _) ?_ ?_
     rotate_left
     ·refine TQ.val rfl rfl rfl (gives_move rfl rfl) ?_
      refine TQ.val rfl rfl rfl (gives_move rfl rfl) ?_
      refine TQ.val rfl rfl rfl (gives_at (v := .pointer (some ⟨b2, o2 + k * 3, none⟩)) rfl rfl rfl (fun w => at_el Try.underlying26 urksz42 hA2 _ _ k hk2 rfl w)) ?_
      refine TQ.val rfl rfl rfl (gives_field (v := .pointer (some ⟨b2, o2 + k * 3 + 2, none⟩)) rfl rfl (fun w => urkfld42_2 _ _ w)) ?_
      refine TQ.val rfl rfl rfl (gives_load (v := .int .u32 x.b) rfl rfl urkag35 (fun w1 hw => (hw.bel.cell hbb2).trans (fcs_cell hx hc2 2 _ rfl))) ?_
      refine TQ.val rfl rfl rfl (gives_move rfl rfl) ?_
      refine TQ.val rfl rfl rfl (gives_move rfl rfl) ?_
      refine TQ.val rfl rfl rfl (gives_at (v := .pointer (some ⟨gi, i, none⟩)) rfl rfl rfl (fun w => at_row Try.underlying31 urksz35 gi _ _ i (lt_at hI.2.1) rfl w)) ?_
      refine TQ.val rfl rfl rfl (pm_loadRow (k := 0) (i := i) rfl rfl urkag35 rfl (by unfold uv; rw [List.getElem?_map, hI.2.1]; rfl)) ?_
      refine TQ.val rfl rfl rfl (gives_bin rfl rfl rfl (fun w => bin_eql_f (q48) w)) ?_
      exact TQ.end_
     refine TX.then_ (TC.condF rfl (TC.skip_ (TX.in_normal (TX.then_ (TC.region ?_)))))
     refine TL.mv ?_
     refine TL.val rfl rfl rfl (gives_bin rfl rfl rfl (fun w => bin_add_ (r := ((k + 1 : Nat) : Int)) (by simp only [IntKind.wrap_i64]; omega) w)) ?_
     refine TL.as_ ?_
     refine TL.end_ ?_
     exact TX.round (⟨(k + 1, ((some ⟨gi, 0, none⟩), ci), oi), by dsimp only; omega, hI.step hx hA0 hB0, hci, hcm2⟩) (by show l.length - (k + 1) < l.length - k; omega) ⟨rfl, rfl, rfl, rfl, trivial⟩ (fun w1 hw => hw)
  ·have q19 := of_decide_eq_false h19
   obtain rfl : k = l.length := by omega
   have hC2 : ClI l a (i + 1) oi := hI.next
   have hi3 := lt_at hI.2.1
   refine TL.end_ (TX.then_ (TC.condF rfl (TC.exit_ (TX.then_exit (TX.then_exit (TX.in_same (TX.in_normal (TX.then_ (TC.region ?_)))))))))
   refine TL.mv ?_
   refine TL.val rfl rfl rfl (gives_bin rfl rfl rfl (fun w => bin_add_ (r := ((i + 1 : Nat) : Int)) (by simp only [IntKind.wrap_i64]; omega) w)) ?_
   refine TL.as_ ?_
   refine TL.end_ ?_
   exact TX.round (⟨(i + 1, (Ai, ci), oi), hi3, hC2, hci, hcm2⟩) (by show 2 * l.length + 2 - (i + 1) < 2 * l.length + 2 - i; omega) ⟨rfl, rfl, rfl, trivial⟩ (fun w1 hw => hw)
 ·have q13 := of_decide_eq_false h13
  refine TL.end_ (TX.then_ (TC.condF rfl (TC.exit_ (TX.then_exit (TX.then_exit (TX.in_same (TX.then_ (TC.seq_ (TC.region ?_)))))))))
  refine TL.mv ?_
  have hE : asc o = compF l a := hC.fin (by omega)
  have hle9 := hC.len
  refine TL.pcallPm (α := {p : Option Addr × Nat // (compF l a).length ≤ p.2 ∧ p.2 ≤ maxLen}) (fun y => .slice y.1.1 (compF l a).length y.1.2) (fun y => [.row (.slice y.1.1 (compF l a).length y.1.2) 35 1 (compF l a).length (uv (compF l a))]) rfl rfl rfl rfl rfl Try.func44 urknm44 urkbd44 (fun w1 hw => by have h9 := rsort_any Ao _ co o w1 (by obtain ⟨B9, h8⟩ := pm_reads hw (k := 0) rfl; exact reads_up h8 (pm_row_lt hw (k := 0) rfl)) rfl (by omega); rw [hE] at h9; exact h9) ?_
  rintro ⟨⟨AS, cS⟩, hS1, hS2⟩
  dsimp only [List.cons_append, List.nil_append]
  refine TL.as_ ?_
  refine TL.end_ (TX.then_ (TC.ret_ ?_))
  exact ret_tmp Try.results46 rfl (fun w1 hw => ⟨⟨(AS, cS), hS1, hS2⟩, rfl, hw.pick [0] (by decide) rfl⟩)
end Go.Proofs.Ytleckflmckbheaa

namespace Go.Proofs.Ytleckflmckbheaa
open Go.RowKit
set_option maxRecDepth 20000
theorem comp_len (l : List Fc) (a : Int) (h : l.length ≤ 1024) : (compF l a).length ≤ 100000 := by
 unfold compF
 have h1 := asc_len ((a :: adrs l).filter fun x => decide (repF l a = repF l x))
 have h2 := List.length_filter_le (fun x => decide (repF l a = repF l x)) (a :: adrs l)
 rw [List.length_cons, adrs_len] at h2
 omega
theorem ure2sz42 (w : World) : (sizeOf 42).run Try.prog w = .ok 3 w := rfl
theorem ure2nm23 : (Try.f23.name == "runtime.NumGoroutine") = false := by decide
theorem ure2bd23 : Try.f23.body.isNone = false := rfl
theorem ure2nm46 : (Try.f46.name == "runtime.NumGoroutine") = false := by decide
theorem ure2bd46 : Try.f46.body.isNone = false := rfl
theorem ure2nm45 : (Try.f45.name == "runtime.NumGoroutine") = false := by decide
theorem ure2bd45 : Try.f45.body.isNone = false := rfl
theorem ure2fld42_1 (g o : Nat) (w : World) : (Instr.fieldAt 42 (.pointer (some ⟨g, o, none⟩)) 1).run Try.prog w = .ok (.pointer (some ⟨g, o + 1, none⟩)) w := by kernel_rfl
theorem ure2ag35 (w : World) : (isAgg 35).run Try.prog w = .ok false w := rfl
theorem ure2fld42_2 (g o : Nat) (w : World) : (Instr.fieldAt 42 (.pointer (some ⟨g, o, none⟩)) 2).run Try.prog w = .ok (.pointer (some ⟨g, o + 2, none⟩)) w := by kernel_rfl
theorem ure2ag42 (w : World) : (isAgg 42).run Try.prog w = .ok true w := rfl
theorem ure2bs26_1_44646 (a0_0 : Int) (a0_1 : Int) (a0_2 : Int) (w : World) : (Instr.buildSlice 26 1 #[(0, .agg #[.int .i64 a0_0, .int .u32 a0_1, .int .u32 a0_2])]).run Try.prog w = .ok (.slice (some ⟨w.heap.size, 0, none⟩) 1 1) (w.alloc (.cells [.int .i64 a0_0, .int .u32 a0_1, .int .u32 a0_2].toArray 42)) := by kernel_rfl
theorem ure2el26 : Elem Try.prog 26 42 3 16 := Elem.mk' Try.underlying26 (z := .agg #[.int .i64 0, .int .u32 0, .int .u32 0]) (by kernel_rfl) rfl (by omega) (by omega)
set_option maxHeartbeats 1000000 in
theorem rsame_any (A0 : Option Addr) (n0 c0 : Nat) (l : List Fc) (w : World) (hr : Reads w w.heap.size 3 A0 n0 (fcs l)) (hl : l.length = n0) (a b : Int) :
  Calls Try.prog 28 #[.slice A0 n0 c0, .int .u32 a, .int .u32 b] w fun e w' => e = .returned (.bool (decide (validF l ∧ repF l a = repF l b))) ∧ Below w.heap.size w w' := by
 subst hl
 refine begin_ (vs := [.slice A0 l.length c0, .int .u32 a, .int .u32 b]) Try.func28 rfl rfl rfl ?_ (Pm.start w)
 refine TC.seq_ (TC.region ?_)
 refine TL.as_ ?_
 refine TL.end_ (TX.then_ (TC.seq_ ?_))
 have hway : ¬ validF l ∨ (validF l ∧ a = b) ∨ (validF l ∧ ¬ a = b ∧ b ∈ compF l a) ∨ (validF l ∧ ¬ a = b ∧ b ∉ compF l a) := by
  by_cases p1 : validF l <;> by_cases p2 : a = b <;> by_cases p3 : b ∈ compF l a <;> simp [p1, p2, p3]
 rcases hway with hV | ⟨hV, p1⟩ | ⟨hV, p1, p2⟩ | ⟨hV, p1, p2⟩
 ·refine TC.region ?_
  refine TL.mv ?_
  refine TL.pcall1 (r := .bool false) rfl rfl rfl rfl rfl Try.func23 ure2nm23 ure2bd23 (fun w1 hw => rvalid_is A0 _ c0 l w1 ((hr.below hw.bel).more hw.bel.size) rfl (decide_eq_false hV)) ?_
  iterate 13 (first | refine TL.of ?_ | refine TL.offU rfl rfl rfl rfl rfl ?_ | refine TL.mv ?_ | refine TL.pk ?_ | refine TL.as_ ?_)
  refine TL.end_ (TX.then_ (TC.ret_ ?_))
  exact ret_tmp Try.results28 rfl (fun w1 hw => ⟨by rw [decide_eq_false (fun hh => hV hh.1)], hw.bel⟩)
 ·have hl1 : l.length ≤ 1024 := hV.1
  refine TC.region ?_
  refine TL.mv ?_
  refine TL.pcall1 (r := .bool true) rfl rfl rfl rfl rfl Try.func23 ure2nm23 ure2bd23 (fun w1 hw => rvalid_is A0 _ c0 l w1 ((hr.below hw.bel).more hw.bel.size) rfl (decide_eq_true hV)) ?_
  iterate 6 (first | refine TL.gu ?_ | refine TL.mv ?_)
  refine TL.val rfl rfl rfl (gives_bin rfl rfl rfl (fun w => bin_eql_t (p1) w)) ?_
  iterate 11 (first | refine TL.of ?_ | refine TL.gu ?_ | refine TL.pk ?_ | refine TL.mv ?_ | refine TL.as_ ?_)
  refine TL.end_ (TX.then_ (TC.ret_ ?_))
  exact ret_tmp Try.results28 rfl (fun w1 hw => ⟨by rw [decide_eq_true (⟨hV, by rw [p1]⟩)], hw.bel⟩)
 ·have hl1 : l.length ≤ 1024 := hV.1
  refine TC.region ?_
  refine TL.mv ?_
  refine TL.pcall1 (r := .bool true) rfl rfl rfl rfl rfl Try.func23 ure2nm23 ure2bd23 (fun w1 hw => rvalid_is A0 _ c0 l w1 ((hr.below hw.bel).more hw.bel.size) rfl (decide_eq_true hV)) ?_
  iterate 6 (first | refine TL.gu ?_ | refine TL.mv ?_)
  refine TL.val rfl rfl rfl (gives_bin rfl rfl rfl (fun w => bin_eql_f (p1) w)) ?_
  iterate 7 (first | refine TL.gu ?_ | refine TL.mv ?_)
  refine TL.pcallPm (α := {p : Option Addr × Nat // (compF l a).length ≤ p.2 ∧ p.2 ≤ maxLen}) (fun y => .slice y.1.1 (compF l a).length y.1.2) (fun y => [.row (.slice y.1.1 (compF l a).length y.1.2) 35 1 (compF l a).length (uv (compF l a))]) rfl rfl rfl rfl rfl Try.func46 ure2nm46 ure2bd46 (fun w1 hw => rcls_any A0 _ c0 l w1 ((hr.below hw.bel).more hw.bel.size) rfl hl1 a) ?_
  rintro ⟨⟨AK, cK⟩, hK1, hK2⟩
  dsimp only [List.cons_append, List.nil_append]
  refine TL.gu ?_
  refine TL.mv ?_
  refine TL.gu ?_
  refine TL.pcall1 (r := .bool true) rfl rfl rfl rfl rfl Try.func45 ure2nm45 ure2bd45 (fun w1 hw => has_is AK _ cK (compF l a) w1 (by obtain ⟨B9, h8⟩ := pm_reads hw (k := 0) rfl; exact reads_up h8 (pm_row_lt hw (k := 0) rfl)) rfl (comp_len l a hl1) b (decide_eq_true p2)) ?_
  iterate 4 (first | refine TL.pk ?_ | refine TL.gu ?_ | refine TL.as_ ?_)
  refine TL.end_ (TX.then_ (TC.ret_ ?_))
  exact ret_tmp Try.results28 rfl (fun w1 hw => ⟨by rw [decide_eq_true (⟨hV, mem_comp.1 p2⟩)], hw.bel⟩)
 ·have hl1 : l.length ≤ 1024 := hV.1
  refine TC.region ?_
  refine TL.mv ?_
  refine TL.pcall1 (r := .bool true) rfl rfl rfl rfl rfl Try.func23 ure2nm23 ure2bd23 (fun w1 hw => rvalid_is A0 _ c0 l w1 ((hr.below hw.bel).more hw.bel.size) rfl (decide_eq_true hV)) ?_
  iterate 6 (first | refine TL.gu ?_ | refine TL.mv ?_)
  refine TL.val rfl rfl rfl (gives_bin rfl rfl rfl (fun w => bin_eql_f (p1) w)) ?_
  iterate 7 (first | refine TL.gu ?_ | refine TL.mv ?_)
  refine TL.pcallPm (α := {p : Option Addr × Nat // (compF l a).length ≤ p.2 ∧ p.2 ≤ maxLen}) (fun y => .slice y.1.1 (compF l a).length y.1.2) (fun y => [.row (.slice y.1.1 (compF l a).length y.1.2) 35 1 (compF l a).length (uv (compF l a))]) rfl rfl rfl rfl rfl Try.func46 ure2nm46 ure2bd46 (fun w1 hw => rcls_any A0 _ c0 l w1 ((hr.below hw.bel).more hw.bel.size) rfl hl1 a) ?_
  rintro ⟨⟨AK, cK⟩, hK1, hK2⟩
  dsimp only [List.cons_append, List.nil_append]
  refine TL.gu ?_
  refine TL.mv ?_
  refine TL.gu ?_
  refine TL.pcall1 (r := .bool false) rfl rfl rfl rfl rfl Try.func45 ure2nm45 ure2bd45 (fun w1 hw => has_is AK _ cK (compF l a) w1 (by obtain ⟨B9, h8⟩ := pm_reads hw (k := 0) rfl; exact reads_up h8 (pm_row_lt hw (k := 0) rfl)) rfl (comp_len l a hl1) b (decide_eq_false p2)) ?_
  iterate 4 (first | refine TL.pk ?_ | refine TL.gu ?_ | refine TL.as_ ?_)
  refine TL.end_ (TX.then_ (TC.ret_ ?_))
  exact ret_tmp Try.results28 rfl (fun w1 hw => ⟨by rw [decide_eq_false (fun hh => p2 (mem_comp.2 hh.2))], hw.bel⟩)
set_option maxHeartbeats 1000000 in
theorem rforest_any (A0 : Option Addr) (n0 c0 : Nat) (l : List Fc) (w : World) (hr : Reads w w.heap.size 3 A0 n0 (fcs l)) (hl : l.length = n0) (hok : ∀ f ∈ l, f.Ok) :
  Calls Try.prog 26 #[.slice A0 n0 c0] w fun e w' => ∃ A c, e = .returned (.slice A (forV l).length c) ∧ (forV l).length ≤ c ∧ c ≤ maxLen ∧ w'.ownsRow w.heap.size 42 3 (.slice A (forV l).length c) (forV l).length (fcs (forV l)) ∧ Below w.heap.size w w' := by
 subst hl
 refine begin_ (vs := [.slice A0 l.length c0]) Try.func26 rfl rfl rfl ?_ (Pm.start w)
 refine TC.seq_ (TC.region ?_)
 refine TL.as_ ?_
 refine TL.end_ (TX.then_ (TC.seq_ (TC.seq_ ?_)))
 rcases Classical.em (validF l) with hV | hV
 ·have hl1 : l.length ≤ 1024 := hV.1
  refine TC.region ?_
  refine TL.mv ?_
  refine TL.pcall1 (r := .bool true) rfl rfl rfl rfl rfl Try.func23 ure2nm23 ure2bd23 (fun w1 hw => rvalid_is A0 _ c0 l w1 ((hr.below hw.bel).more hw.bel.size) rfl (decide_eq_true hV)) ?_
  refine TL.val rfl rfl rfl (gives_boolnot rfl rfl) ?_
  refine TL.end_ (TX.then_ (TC.condF rfl (TC.skip_ (TX.then_ (TC.seq_ (TC.region ?_))))))
  refine TL.as_ ?_
  refine TL.end_ (TX.then_ (TC.seq_ (TC.seq_ (TC.region ?_))))
  refine TL.as_ ?_
  refine TL.end_ (TX.then_ (TC.block ?_))
  refine TC.nilrow 42 3 ?_
  refine TC.loop_ (α := {y : Nat × (Option Addr × Nat) // y.1 ≤ l.length ∧ (forest (l.take y.1)).length ≤ y.2.2 ∧ y.2.2 ≤ maxLen}) (fun y => [(0, .slice A0 l.length c0), (3, .slice y.1.2.1 ((forest (l.take y.1.1)).length) y.1.2.2), (4, .int .i64 ((y.1.1 : Nat) : Int))]) (fun y => Pm w [.row (.slice y.1.2.1 ((forest (l.take y.1.1)).length) y.1.2.2) 42 3 ((forest (l.take y.1.1)).length) (fcs (forest (l.take y.1.1)))]) (fun y => l.length - y.1.1) (⟨(0, (none, 0)), Nat.zero_le _, Nat.le_refl _, Nat.zero_le _⟩) ⟨rfl, rfl, rfl, trivial⟩ (fun w1 hw => hw) ?_
  rintro ⟨⟨i, ⟨Ao, co⟩⟩, hi, hco, hcm⟩
  dsimp only at hi hco hcm ⊢
  refine TC.seq_ (TC.seq_ (TC.region ?_))
  refine TL.mv ?_
  refine TL.mv ?_
  refine TL.val rfl rfl rfl (gives_len rfl Try.underlying26 rfl) ?_
  refine TL.vsplit rfl rfl rfl (gives_bin rfl rfl rfl (fun w => bin_lss w)) (fun h11 => ?_) (fun h11 => ?_)
  ·have q11 := of_decide_eq_true h11
   have hi2 : i < l.length := by omega
   obtain ⟨x, hx⟩ : ∃ x, l[i]? = some x := ⟨_, List.getElem?_eq_getElem hi2⟩
   obtain ⟨b2, o2, hA2, hbb2, hc2⟩ := hr.ad (by omega) (by decide)
   have hxo := hok x (List.mem_of_getElem? hx)
   have htk : l.take (i + 1) = l.take i ++ [x] := by rw [List.take_add_one, hx]; rfl
   refine TL.end_ (TX.then_ (TC.condT rfl (TC.skip_ (TX.then_ (TC.seq_ (TC.block (TC.seq_ ?_)))))))
   have hsn := forest_snoc (l.take i) x
   rw [← htk] at hsn
   have hfl : (forest (l.take i)).length ≤ 1024 := by have h1 := forest_le (l.take i); have h2 := List.length_take (l := l) (i := i); omega
   rcases Classical.em (x.b ∈ compF (forest (l.take i)) x.a) with p2 | p2
   ·have hF : forest (l.take (i + 1)) = forest (l.take i) := by rw [hsn, if_pos]; have := mem_comp.1 p2; rw [forest_rep] at this; exact this
    refine TC.held (ls := #[Ff,Ff,Ff,Ff,Ff,Ff,Ff,Ff,Ff,Ff,Ff,Ff,Ff,Ff]) (Pm w []) (by kernel_rfl) rfl rfl (fun w hw => hw.drawn _) ?_
    refine TH.tk (listed' := #[Tt,Ff,Ff,Ff,Ff,Ff,Ff,Ff,Ff,Ff,Ff,Ff,Ff,Ff]) 0 rfl rfl rfl (gives_move rfl rfl) (fun w1 hw => hw.pick [] (by decide) rfl) ?_
    refine TH.tk (listed' := #[Tt,Tt,Ff,Ff,Ff,Ff,Ff,Ff,Ff,Ff,Ff,Ff,Ff,Ff]) 1 rfl rfl rfl (gives_move rfl rfl) (fun w1 hw => hw.pick [] (by decide) rfl) ?_
    refine TH.tk (listed' := #[Tt,Tt,Tt,Ff,Ff,Ff,Ff,Ff,Ff,Ff,Ff,Ff,Ff,Ff]) 2 rfl rfl rfl (gives_move rfl rfl) (fun w1 hw => hw.pick [] (by decide) rfl) ?_
    refine TH.tk (listed' := #[Tt,Tt,Tt,Tt,Ff,Ff,Ff,Ff,Ff,Ff,Ff,Ff,Ff,Ff]) 3 rfl rfl rfl (gives_at (v := .pointer (some ⟨b2, o2 + i * 3, none⟩)) rfl rfl rfl (fun w => at_el Try.underlying26 ure2sz42 hA2 _ _ i hi2 rfl w)) (fun w1 hw => hw.pick [] (by decide) rfl) ?_
    refine TH.tk (listed' := #[Tt,Tt,Tt,Tt,Tt,Ff,Ff,Ff,Ff,Ff,Ff,Ff,Ff,Ff]) 4 rfl rfl rfl (gives_field (v := .pointer (some ⟨b2, o2 + i * 3 + 1, none⟩)) rfl rfl (fun w => ure2fld42_1 _ _ w)) (fun w1 hw => hw.pick [] (by decide) rfl) ?_
    refine TH.tk (listed' := #[Tt,Tt,Tt,Tt,Tt,Tt,Ff,Ff,Ff,Ff,Ff,Ff,Ff,Ff]) 5 rfl rfl rfl (gives_load (v := .int .u32 x.a) rfl rfl ure2ag35 (fun w1 hw => (hw.bel.cell hbb2).trans (fcs_cell hx hc2 1 _ rfl))) (fun w1 hw => hw.pick [] (by decide) rfl) ?_
    refine TH.tk (listed' := #[Tt,Tt,Tt,Tt,Tt,Tt,Ff,Tt,Ff,Ff,Ff,Ff,Ff,Ff]) 7 rfl rfl rfl (gives_move rfl rfl) (fun w1 hw => hw.pick [] (by decide) rfl) ?_
    refine TH.tk (listed' := #[Tt,Tt,Tt,Tt,Tt,Tt,Ff,Tt,Tt,Ff,Ff,Ff,Ff,Ff]) 8 rfl rfl rfl (gives_move rfl rfl) (fun w1 hw => hw.pick [] (by decide) rfl) ?_
    refine TH.tk (listed' := #[Tt,Tt,Tt,Tt,Tt,Tt,Ff,Tt,Tt,Tt,Ff,Ff,Ff,Ff]) 9 rfl rfl rfl (gives_at (v := .pointer (some ⟨b2, o2 + i * 3, none⟩)) rfl rfl rfl (fun w => at_el Try.underlying26 ure2sz42 hA2 _ _ i hi2 rfl w)) (fun w1 hw => hw.pick [] (by decide) rfl) ?_
    refine TH.tk (listed' := #[Tt,Tt,Tt,Tt,Tt,Tt,Ff,Tt,Tt,Tt,Tt,Ff,Ff,Ff]) 10 rfl rfl rfl (gives_field (v := .pointer (some ⟨b2, o2 + i * 3 + 2, none⟩)) rfl rfl (fun w => ure2fld42_2 _ _ w)) (fun w1 hw => hw.pick [] (by decide) rfl) ?_
    refine TH.tk (listed' := #[Tt,Tt,Tt,Tt,Tt,Tt,Ff,Tt,Tt,Tt,Tt,Tt,Ff,Ff]) 11 rfl rfl rfl (gives_load (v := .int .u32 x.b) rfl rfl ure2ag35 (fun w1 hw => (hw.bel.cell hbb2).trans (fcs_cell hx hc2 2 _ rfl))) (fun w1 hw => hw.pick [] (by decide) rfl) ?_
    refine TH.only' (listed' := #[Tt,Tt,Tt,Tt,Tt,Tt,Tt,Tt,Tt,Tt,Tt,Tt,Ff,Ff]) 6 rfl (by kernel_rfl) rfl ?_
    refine TL.pcallPm (α := {p : Option Addr × Nat // (compF (forest (l.take i)) x.a).length ≤ p.2 ∧ p.2 ≤ maxLen}) (fun y => .slice y.1.1 (compF (forest (l.take i)) x.a).length y.1.2) (fun y => [.row (.slice y.1.1 (compF (forest (l.take i)) x.a).length y.1.2) 35 1 (compF (forest (l.take i)) x.a).length (uv (compF (forest (l.take i)) x.a))]) rfl rfl rfl rfl rfl Try.func46 ure2nm46 ure2bd46 (fun w1 hw => rcls_any Ao _ co (forest (l.take i)) w1 (by obtain ⟨B9, h8⟩ := pm_reads hw (k := 0) rfl; exact reads_up h8 (pm_row_lt hw (k := 0) rfl)) rfl hfl x.a) ?_
    rintro ⟨⟨AK, cK⟩, hK1, hK2⟩
    dsimp only [List.cons_append, List.nil_append]
    refine TL.end_ ?_
    refine TX.held (fun w1 hw => hw.pick [] (by decide) rfl) ?_
    refine TH.only' (listed' := #[Tt,Tt,Tt,Tt,Tt,Tt,Tt,Tt,Tt,Tt,Tt,Tt,Tt,Ff]) 12 rfl (by kernel_rfl) rfl ?_
    refine TL.pcall1 (r := .bool true) rfl rfl rfl rfl rfl Try.func45 ure2nm45 ure2bd45 (fun w1 hw => has_is AK _ cK (compF (forest (l.take i)) x.a) w1 (by obtain ⟨B9, h8⟩ := pm_reads hw (k := 0) rfl; exact reads_up h8 (pm_row_lt hw (k := 0) rfl)) rfl (comp_len _ _ hfl) x.b (decide_eq_true p2)) ?_
    refine TL.end_ ?_
    refine TX.held (fun w1 hw => hw.pick [] (by decide) rfl) ?_
    refine TH.tk (listed' := #[Tt,Tt,Tt,Tt,Tt,Tt,Tt,Tt,Tt,Tt,Tt,Tt,Tt,Tt]) 13 rfl rfl rfl (gives_boolnot rfl rfl) (fun w1 hw => hw.pick [] (by decide) rfl) ?_
    refine TH.done (by kernel_rfl) ?_
    refine TX.then_ (TC.condF rfl (TC.skip_ (TX.in_normal (TX.then_ (TC.region ?_)))))
    refine TL.mv ?_
    refine TL.val rfl rfl rfl (gives_bin rfl rfl rfl (fun w => bin_add_ (r := ((i + 1 : Nat) : Int)) (by simp only [IntKind.wrap_i64]; omega) w)) ?_
    refine TL.as_ ?_
    refine TL.end_ ?_
    exact TX.round (⟨(i + 1, (Ao, co)), by dsimp only; omega, by dsimp only; rw [hF]; exact hco, hcm⟩) (by show l.length - (i + 1) < l.length - i; omega) ⟨rfl, (by dsimp only; rw [hF]; rfl), rfl, trivial⟩ (fun w1 hw => (by dsimp only; rw [hF]; exact hw.pick [1] (by decide) rfl))
   ·have hF : forest (l.take (i + 1)) = forest (l.take i) ++ [x] := by rw [hsn, if_neg]; exact fun hh => p2 (mem_comp.2 (by rw [forest_rep]; exact hh))
    refine TC.held (ls := #[Ff,Ff,Ff,Ff,Ff,Ff,Ff,Ff,Ff,Ff,Ff,Ff,Ff,Ff]) (Pm w []) (by kernel_rfl) rfl rfl (fun w hw => hw.drawn _) ?_
    refine TH.tk (listed' := #[Tt,Ff,Ff,Ff,Ff,Ff,Ff,Ff,Ff,Ff,Ff,Ff,Ff,Ff]) 0 rfl rfl rfl (gives_move rfl rfl) (fun w1 hw => hw.pick [] (by decide) rfl) ?_
    refine TH.tk (listed' := #[Tt,Tt,Ff,Ff,Ff,Ff,Ff,Ff,Ff,Ff,Ff,Ff,Ff,Ff]) 1 rfl rfl rfl (gives_move rfl rfl) (fun w1 hw => hw.pick [] (by decide) rfl) ?_
    refine TH.tk (listed' := #[Tt,Tt,Tt,Ff,Ff,Ff,Ff,Ff,Ff,Ff,Ff,Ff,Ff,Ff]) 2 rfl rfl rfl (gives_move rfl rfl) (fun w1 hw => hw.pick [] (by decide) rfl) ?_
    refine TH.tk (listed' := #[Tt,Tt,Tt,Tt,Ff,Ff,Ff,Ff,Ff,Ff,Ff,Ff,Ff,Ff]) 3 rfl rfl rfl (gives_at (v := .pointer (some ⟨b2, o2 + i * 3, none⟩)) rfl rfl rfl (fun w => at_el Try.underlying26 ure2sz42 hA2 _ _ i hi2 rfl w)) (fun w1 hw => hw.pick [] (by decide) rfl) ?_
    refine TH.tk (listed' := #[Tt,Tt,Tt,Tt,Tt,Ff,Ff,Ff,Ff,Ff,Ff,Ff,Ff,Ff]) 4 rfl rfl rfl (gives_field (v := .pointer (some ⟨b2, o2 + i * 3 + 1, none⟩)) rfl rfl (fun w => ure2fld42_1 _ _ w)) (fun w1 hw => hw.pick [] (by decide) rfl) ?_
    refine TH.tk (listed' := #[Tt,Tt,Tt,Tt,Tt,Tt,Ff,Ff,Ff,Ff,Ff,Ff,Ff,Ff]) 5 rfl rfl rfl (gives_load (v := .int .u32 x.a) rfl rfl ure2ag35 (fun w1 hw => (hw.bel.cell hbb2).trans (fcs_cell hx hc2 1 _ rfl))) (fun w1 hw => hw.pick [] (by decide) rfl) ?_
    refine TH.tk (listed' := #[Tt,Tt,Tt,Tt,Tt,Tt,Ff,Tt,Ff,Ff,Ff,Ff,Ff,Ff]) 7 rfl rfl rfl (gives_move rfl rfl) (fun w1 hw => hw.pick [] (by decide) rfl) ?_
    refine TH.tk (listed' := #[Tt,Tt,Tt,Tt,Tt,Tt,Ff,Tt,Tt,Ff,Ff,Ff,Ff,Ff]) 8 rfl rfl rfl (gives_move rfl rfl) (fun w1 hw => hw.pick [] (by decide) rfl) ?_
    refine TH.tk (listed' := #[Tt,Tt,Tt,Tt,Tt,Tt,Ff,Tt,Tt,Tt,Ff,Ff,Ff,Ff]) 9 rfl rfl rfl (gives_at (v := .pointer (some ⟨b2, o2 + i * 3, none⟩)) rfl rfl rfl (fun w => at_el Try.underlying26 ure2sz42 hA2 _ _ i hi2 rfl w)) (fun w1 hw => hw.pick [] (by decide) rfl) ?_
    refine TH.tk (listed' := #[Tt,Tt,Tt,Tt,Tt,Tt,Ff,Tt,Tt,Tt,Tt,Ff,Ff,Ff]) 10 rfl rfl rfl (gives_field (v := .pointer (some ⟨b2, o2 + i * 3 + 2, none⟩)) rfl rfl (fun w => ure2fld42_2 _ _ w)) (fun w1 hw => hw.pick [] (by decide) rfl) ?_
    refine TH.tk (listed' := #[Tt,Tt,Tt,Tt,Tt,Tt,Ff,Tt,Tt,Tt,Tt,Tt,Ff,Ff]) 11 rfl rfl rfl (gives_load (v := .int .u32 x.b) rfl rfl ure2ag35 (fun w1 hw => (hw.bel.cell hbb2).trans (fcs_cell hx hc2 2 _ rfl))) (fun w1 hw => hw.pick [] (by decide) rfl) ?_
    refine TH.only' (listed' := #[Tt,Tt,Tt,Tt,Tt,Tt,Tt,Tt,Tt,Tt,Tt,Tt,Ff,Ff]) 6 rfl (by kernel_rfl) rfl ?_
    refine TL.pcallPm (α := {p : Option Addr × Nat // (compF (forest (l.take i)) x.a).length ≤ p.2 ∧ p.2 ≤ maxLen}) (fun y => .slice y.1.1 (compF (forest (l.take i)) x.a).length y.1.2) (fun y => [.row (.slice y.1.1 (compF (forest (l.take i)) x.a).length y.1.2) 35 1 (compF (forest (l.take i)) x.a).length (uv (compF (forest (l.take i)) x.a))]) rfl rfl rfl rfl rfl Try.func46 ure2nm46 ure2bd46 (fun w1 hw => rcls_any Ao _ co (forest (l.take i)) w1 (by obtain ⟨B9, h8⟩ := pm_reads hw (k := 0) rfl; exact reads_up h8 (pm_row_lt hw (k := 0) rfl)) rfl hfl x.a) ?_
    rintro ⟨⟨AK, cK⟩, hK1, hK2⟩
    dsimp only [List.cons_append, List.nil_append]
    refine TL.end_ ?_
    refine TX.held (fun w1 hw => hw.pick [] (by decide) rfl) ?_
    refine TH.only' (listed' := #[Tt,Tt,Tt,Tt,Tt,Tt,Tt,Tt,Tt,Tt,Tt,Tt,Tt,Ff]) 12 rfl (by kernel_rfl) rfl ?_
    refine TL.pcall1 (r := .bool false) rfl rfl rfl rfl rfl Try.func45 ure2nm45 ure2bd45 (fun w1 hw => has_is AK _ cK (compF (forest (l.take i)) x.a) w1 (by obtain ⟨B9, h8⟩ := pm_reads hw (k := 0) rfl; exact reads_up h8 (pm_row_lt hw (k := 0) rfl)) rfl (comp_len _ _ hfl) x.b (decide_eq_false p2)) ?_
    refine TL.end_ ?_
    refine TX.held (fun w1 hw => hw.pick [] (by decide) rfl) ?_
    refine TH.tk (listed' := #[Tt,Tt,Tt,Tt,Tt,Tt,Tt,Tt,Tt,Tt,Tt,Tt,Tt,Tt]) 13 rfl rfl rfl (gives_boolnot rfl rfl) (fun w1 hw => hw.pick [] (by decide) rfl) ?_
    refine TH.done (by kernel_rfl) ?_
    refine TX.then_ (TC.condT rfl (TC.region ?_))
    refine TL.mv ?_
    refine TL.mv ?_
    refine TL.mv ?_
    refine TL.val rfl rfl rfl (gives_at (v := .pointer (some ⟨b2, o2 + i * 3, none⟩)) rfl rfl rfl (fun w => at_el Try.underlying26 ure2sz42 hA2 _ _ i hi2 rfl w)) ?_
    refine TL.val rfl rfl rfl (gives_loadR rfl rfl ure2ag42 ure2sz42 (fc_cells_len x) (fun w1 hw j u hu => (hw.bel.cell hbb2).trans (fcs_cell hx hc2 j u hu))) ?_
    refine TL.prowS (e := 42) (size := 3) (cs := x.cells) rfl rfl rfl rfl rfl (fun w => ure2bs26_1_44646 _ _ _ w) (by decide) rfl (fun g33 => ?_)
    refine TL.appendT (k := 2) rfl rfl rfl rfl Try.underlying26 ure2el26 rfl rfl rfl (fun w1 hw => pm_reads hw (k := 0) rfl) (fc_one x) (by show _ * 16 ≤ _; omega) ((forest (l.take i) ++ [x]).length) (by rw [List.length_append]; rfl) (fcs (forest (l.take i) ++ [x])) (by rw [fcs_app]; rfl) (fun A34 c34 hA341 hA342 => ?_)
    refine TL.as_ ?_
    refine TL.end_ (TX.in_normal (TX.then_ (TC.region ?_)))
    refine TL.mv ?_
    refine TL.val rfl rfl rfl (gives_bin rfl rfl rfl (fun w => bin_add_ (r := ((i + 1 : Nat) : Int)) (by simp only [IntKind.wrap_i64]; omega) w)) ?_
    refine TL.as_ ?_
    refine TL.end_ ?_
    exact TX.round (⟨(i + 1, (A34, c34)), by dsimp only; omega, by dsimp only; rw [hF]; exact hA341, hA342⟩) (by show l.length - (i + 1) < l.length - i; omega) ⟨rfl, (by dsimp only; rw [hF]; rfl), rfl, trivial⟩ (fun w1 hw => (by dsimp only; rw [hF]; exact hw.pick [2] (by decide) rfl))
  ·have q11 := of_decide_eq_false h11
   refine TL.end_ (TX.then_ (TC.condF rfl (TC.exit_ (TX.then_exit (TX.then_exit (TX.in_same (TX.then_ (TC.seq_ (TC.region ?_)))))))))
   refine TL.mv ?_
   refine TL.as_ ?_
   refine TL.end_ (TX.then_ (TC.ret_ ?_))
   have hE : forest (l.take i) = forV l := by rw [List.take_of_length_le (by omega)]; exact (if_pos hV).symm
   rw [hE] at hco
   exact ret_tmp Try.results26 rfl (fun w1 hw => ⟨Ao, co, by rw [hE], hco, hcm, by have h9 := hw.at_ (k := 0) rfl; rw [hE] at h9; exact h9, hw.bel⟩)
 ·refine TC.region ?_
  refine TL.mv ?_
  refine TL.pcall1 (r := .bool false) rfl rfl rfl rfl rfl Try.func23 ure2nm23 ure2bd23 (fun w1 hw => rvalid_is A0 _ c0 l w1 ((hr.below hw.bel).more hw.bel.size) rfl (decide_eq_false hV)) ?_
  refine TL.val rfl rfl rfl (gives_boolnot rfl rfl) ?_
  refine TL.end_ (TX.then_ (TC.condT rfl (TC.seq_ (TC.region ?_))))
  refine TL.as_ ?_
  refine TL.end_ (TX.then_ (TC.ret_ (TX.then_ret ?_)))
  have hE : forV l = [] := if_neg hV
  exact ret_tmp Try.results26 rfl (fun w1 hw => ⟨none, 0, by rw [hE]; rfl, by rw [hE]; exact Nat.le_refl _, Nat.zero_le _, by rw [hE]; exact World.ownsRow_nil _ _ _ _, hw.bel⟩)
end Go.Proofs.Ytleckflmckbheaa

namespace Go.Proofs.Ytleckflmckbheaa
open Go.RowKit
set_option maxRecDepth 20000
def From (F : List Fc) (from_ last : Int) : Prop := (from_ = -1 ∧ last = -1) ∨ ∃ j f, from_ = ((j : Nat) : Int) ∧ F[j]? = some f ∧ f.id = last
theorem fr_iff {F : List Fc} (hF : Frs F) (ha : Asc F) {from_ last : Int} (h : From F from_ last) {i : Nat} {x : Fc} (hx : F[i]? = some x) : x.id = last ↔ ((i : Nat) : Int) = from_ := by
 rcases h with ⟨h1, h2⟩ | ⟨j, f, h1, h2, h3⟩
 ·have := hF.pos x (List.mem_of_getElem? hx)
  constructor <;> intro hh <;> omega
 ·subst h1 h3
  constructor
  ·intro e
   rcases Nat.lt_trichotomy i j with h | h | h
   ·have := ha i j x f h hx h2; omega
   ·rw [h]
   ·have := ha j i f x h h2 hx; omega
  ·intro e
   obtain rfl : i = j := by omega
   rw [hx] at h2
   cases h2
   rfl
def Ext (F : List Fc) (a last : Int) (m : Nat) : Prop := ∃ s q l0, q.length = m ∧ ∀ p y, Trl F a last p y → Trl F s l0 (q ++ p) y
theorem Ext.start (F : List Fc) (a last : Int) : Ext F a last 0 := ⟨a, [], last, rfl, fun p y h => h⟩
theorem Ext.step {F : List Fc} {a last : Int} {m : Nat} (h : Ext F a last m) {f : Fc} (hf : f ∈ F) (h1 : f.id ≠ last) (h2 : f.a = a ∨ f.b = a) : Ext F (oth f a) f.id (m + 1) := by
 obtain ⟨s, q, l0, hq, hp⟩ := h
 refine ⟨s, q ++ [f], l0, by rw [List.length_append, hq]; rfl, fun p y ht => ?_⟩
 have := hp (f :: p) y ⟨hf, h1, h2, ht⟩
 rw [List.append_assoc]
 exact this
theorem Ext.le {F : List Fc} (hF : Frs F) {a last : Int} {m : Nat} (h : Ext F a last m) : m ≤ F.length := by
 obtain ⟨s, q, l0, hq, hp⟩ := h
 have ht := hp [] a rfl
 rw [List.append_nil] at ht
 rw [← hq]
 exact nodup_len (hF.nodup _ _ _ _ ht) ht.mem
def LdOk (F : List Fc) (a last b : Int) (y : List Fc × Bool) : Prop := (y.2 = true ↔ ∃ q, Trl F a last q b) ∧ (y.2 = false → y.1 = []) ∧ (y.2 = true → Trl F a last y.1 b)
theorem LdOk.here {F : List Fc} {a last : Int} : LdOk F a last a ([], true) := ⟨iff_of_true rfl ⟨[], rfl⟩, fun h => (by cases h), fun _ => rfl⟩
theorem LdOk.found {F : List Fc} {a last b : Int} {p : List Fc} (h : Trl F a last p b) : LdOk F a last b (p, true) := ⟨iff_of_true rfl ⟨p, h⟩, fun h => (by cases h), fun _ => h⟩
theorem LdOk.none_ {F : List Fc} {a last b : Int} (hab : ¬ a = b) (h : ∀ (f : Fc) (q : List Fc), f ∈ F → ¬ Trl F a last (f :: q) b) : LdOk F a last b ([], false) := by
 refine ⟨iff_of_false (by simp) ?_, fun _ => rfl, fun h => by cases h⟩
 rintro ⟨q, hq⟩
 cases q with
 | nil => exact hab hq
 | cons f q => exact h f q hq.1 hq
theorem LdOk.len {F : List Fc} (hF : Frs F) {a last b : Int} {p : List Fc} {t : Bool} (h : LdOk F a last b (p, t)) : p.length ≤ F.length := by
 cases t with
 | true => have ht := h.2.2 rfl; exact nodup_len (hF.nodup _ _ _ _ ht) ht.mem
 | false => have h0 : p = [] := h.2.1 rfl; rw [h0]; exact Nat.zero_le _
theorem ld_next {F : List Fc} {a last b : Int} {i : Nat} {x : Fc} (hx : F[i]? = some x) (h : ∀ (f : Fc) (q : List Fc), f ∈ F.take i → ¬ Trl F a last (f :: q) b) (h2 : ∀ q, ¬ Trl F a last (x :: q) b) : ∀ (f : Fc) (q : List Fc), f ∈ F.take (i + 1) → ¬ Trl F a last (f :: q) b := by
 intro f q hf
 rw [List.take_add_one, hx] at hf
 rcases List.mem_append.1 hf with hf | hf
 ·exact h f q hf
 ·rw [List.mem_singleton.1 hf]
  exact h2 q
theorem urlsz42 (w : World) : (sizeOf 42).run Try.prog w = .ok 3 w := rfl
theorem urlfld42_1 (g o : Nat) (w : World) : (Instr.fieldAt 42 (.pointer (some ⟨g, o, none⟩)) 1).run Try.prog w = .ok (.pointer (some ⟨g, o + 1, none⟩)) w := by kernel_rfl
theorem urlag35 (w : World) : (isAgg 35).run Try.prog w = .ok false w := rfl
theorem urlfld42_2 (g o : Nat) (w : World) : (Instr.fieldAt 42 (.pointer (some ⟨g, o, none⟩)) 2).run Try.prog w = .ok (.pointer (some ⟨g, o + 2, none⟩)) w := by kernel_rfl
theorem urlnm47 : (Try.f47.name == "runtime.NumGoroutine") = false := by decide
theorem urlbd47 : Try.f47.body.isNone = false := rfl
theorem urlag42 (w : World) : (isAgg 42).run Try.prog w = .ok true w := rfl
theorem urlbs26_1_44646 (a0_0 : Int) (a0_1 : Int) (a0_2 : Int) (w : World) : (Instr.buildSlice 26 1 #[(0, .agg #[.int .i64 a0_0, .int .u32 a0_1, .int .u32 a0_2])]).run Try.prog w = .ok (.slice (some ⟨w.heap.size, 0, none⟩) 1 1) (w.alloc (.cells [.int .i64 a0_0, .int .u32 a0_1, .int .u32 a0_2].toArray 42)) := by kernel_rfl
theorem urlel26 : Elem Try.prog 26 42 3 16 := Elem.mk' Try.underlying26 (z := .agg #[.int .i64 0, .int .u32 0, .int .u32 0]) (by kernel_rfl) rfl (by omega) (by omega)
set_option maxHeartbeats 1000000 in
theorem lead_any (A0 : Option Addr) (c0 : Nat) (F : List Fc) (hF : Frs F) (ha : Asc F) (hl1 : F.length ≤ 1024) (b : Int) : ∀ (d m : Nat) (a last from_ : Int) (w : World) (hr : Reads w w.heap.size 3 A0 F.length (fcs F)) (hfr : From F from_ last) (hE : Ext F a last m) (hd : F.length < m + d),
  Calls Try.prog 47 #[.slice A0 F.length c0, .int .u32 a, .int .u32 b, .int .i64 from_] w fun e w' => ∃ y : {y : (Option Addr × Nat) × List Fc × Bool // LdOk F a last b y.2 ∧ y.2.1.length ≤ y.1.2 ∧ y.1.2 ≤ maxLen}, e = .returned (.tuple #[.slice y.1.1.1 y.1.2.1.length y.1.1.2, .bool y.1.2.2]) ∧ Pm w [.row (.slice y.1.1.1 y.1.2.1.length y.1.1.2) 42 3 y.1.2.1.length (fcs y.1.2.1)] w' := by
 intro d
 induction d with
 | zero => intro m a last from_ w hr hfr hE hd; have h1 := hE.le hF; omega
 | succ d ih0 =>
 intro m a last from_ w hr hfr hE hd
 have ih := fun (m : Nat) (a last from_ : Int) (w : World) hr hfr hE hd => ih0 m a last from_ w hr hfr hE hd
 refine begin_ (vs := [.slice A0 F.length c0, .int .u32 a, .int .u32 b, .int .i64 from_]) Try.func47 rfl rfl rfl ?_ (Pm.start w)
 refine TC.seq_ (TC.region ?_)
 refine TL.as_ ?_
 refine TL.as_ ?_
 refine TL.end_ (TX.then_ (TC.seq_ (TC.seq_ (TC.region ?_))))
 refine TL.mv ?_
 refine TL.mv ?_
 refine TL.vsplit rfl rfl rfl (gives_bin rfl rfl rfl (fun w => bin_eql w)) (fun h16 => ?_) (fun h16 => ?_)
 ·have q16 := of_decide_eq_true h16
  refine TL.end_ (TX.then_ (TC.condT rfl (TC.seq_ (TC.region ?_))))
  refine TL.as_ ?_
  refine TL.as_ ?_
  refine TL.end_ (TX.then_ (TC.ret_ (TX.then_ret ?_)))
  subst q16
  exact ret_pair Try.results47 rfl rfl (fun w1 hw => ⟨⟨((none, 0), ([], true)), LdOk.here, Nat.le_refl _, Nat.zero_le _⟩, rfl, hw.nilrow _ _⟩)
 ·have q16 := of_decide_eq_false h16
  refine TL.end_ (TX.then_ (TC.condF rfl (TC.skip_ (TX.then_ (TC.seq_ (TC.seq_ (TC.region ?_)))))))
  refine TL.as_ ?_
  refine TL.end_ (TX.then_ (TC.block ?_))
  refine TC.loop_ (α := {i : Nat // i ≤ F.length ∧ ∀ (f : Fc) (q : List Fc), f ∈ F.take i → ¬ Trl F a last (f :: q) b}) (fun y => [(0, .slice A0 F.length c0), (1, .int .u32 a), (2, .int .u32 b), (3, .int .i64 from_), (10, .int .i64 ((y.1 : Nat) : Int))]) (fun y => Pm w []) (fun y => F.length - y.1) (⟨0, Nat.zero_le _, fun f q hf => absurd hf List.not_mem_nil⟩) ⟨rfl, rfl, rfl, rfl, rfl, trivial⟩ (fun w1 hw => hw) ?_
  rintro ⟨i, hi, hin⟩
  dsimp only at hi hin ⊢
  refine TC.seq_ (TC.seq_ (TC.region ?_))
  refine TL.mv ?_
  refine TL.mv ?_
  refine TL.val rfl rfl rfl (gives_len rfl Try.underlying26 rfl) ?_
  refine TL.vsplit rfl rfl rfl (gives_bin rfl rfl rfl (fun w => bin_lss w)) (fun h20 => ?_) (fun h20 => ?_)
  ·have q20 := of_decide_eq_true h20
   have hi2 : i < F.length := by omega
   obtain ⟨x, hx⟩ : ∃ x, F[i]? = some x := ⟨_, List.getElem?_eq_getElem hi2⟩
   obtain ⟨b2, o2, hA2, hbb2, hc2⟩ := hr.ad (by omega) (by decide)
   have hxm := List.mem_of_getElem? hx
   have hfi := fr_iff hF ha hfr hx
   refine TL.end_ (TX.then_ (TC.condT rfl (TC.skip_ (TX.then_ (TC.seq_ (TC.block (TC.seq_ (TC.seq_ ?_))))))))
   have hway : ((i : Nat) : Int) = from_ ∨ (¬ ((i : Nat) : Int) = from_ ∧ ¬ x.a = a ∧ ¬ x.b = a) ∨ (¬ ((i : Nat) : Int) = from_ ∧ ¬ x.a = a ∧ x.b = a) ∨ (¬ ((i : Nat) : Int) = from_ ∧ x.a = a) := by omega
   rcases hway with p1 | ⟨p1, p2, p3⟩ | ⟨p1, p2, p3⟩ | ⟨p1, p2⟩
   ·have hin2 : ∀ (f : Fc) (q : List Fc), f ∈ F.take (i + 1) → ¬ Trl F a last (f :: q) b := ld_next hx hin (fun q hq => hq.2.1 (hfi.2 p1))
    refine TC.region ?_
    refine TL.mv ?_
    refine TL.mv ?_
    refine TL.val rfl rfl rfl (gives_bin rfl rfl rfl (fun w => bin_eql_t (p1) w)) ?_
    iterate 18 (first | refine TL.of ?_ | refine TL.offU rfl rfl rfl rfl rfl ?_ | refine TL.mv ?_ | refine TL.pk ?_)
    refine TL.end_ (TX.then_ (TC.condT rfl (TC.exit_ (TX.then_exit (TX.in_same (TX.then_ (TC.region ?_)))))))
    refine TL.mv ?_
    refine TL.val rfl rfl rfl (gives_bin rfl rfl rfl (fun w => bin_add_ (r := ((i + 1 : Nat) : Int)) (by simp only [IntKind.wrap_i64]; omega) w)) ?_
    refine TL.as_ ?_
    refine TL.end_ ?_
    exact TX.round (⟨i + 1, by omega, hin2⟩) (by show F.length - (i + 1) < F.length - i; omega) ⟨rfl, rfl, rfl, rfl, rfl, trivial⟩ (fun w1 hw => hw)
   ·have hin2 : ∀ (f : Fc) (q : List Fc), f ∈ F.take (i + 1) → ¬ Trl F a last (f :: q) b := ld_next hx hin (fun q hq => hq.2.2.1.elim p2 p3)
    refine TC.region ?_
    refine TL.mv ?_
    refine TL.mv ?_
    refine TL.val rfl rfl rfl (gives_bin rfl rfl rfl (fun w => bin_eql_f (p1) w)) ?_
    iterate 6 (first | refine TL.gu ?_ | refine TL.mv ?_)
    refine TL.val rfl rfl rfl (gives_at (v := .pointer (some ⟨b2, o2 + i * 3, none⟩)) rfl rfl rfl (fun w => at_el Try.underlying26 urlsz42 hA2 _ _ i hi2 rfl w)) ?_
    refine TL.gu ?_
    refine TL.val rfl rfl rfl (gives_field (v := .pointer (some ⟨b2, o2 + i * 3 + 1, none⟩)) rfl rfl (fun w => urlfld42_1 _ _ w)) ?_
    refine TL.gu ?_
    refine TL.val rfl rfl rfl (gives_load (v := .int .u32 x.a) rfl rfl urlag35 (fun w1 hw => (hw.bel.cell hbb2).trans (fcs_cell hx hc2 1 _ rfl))) ?_
    refine TL.gu ?_
    refine TL.mv ?_
    refine TL.gu ?_
    refine TL.val rfl rfl rfl (gives_bin rfl rfl rfl (fun w => bin_neq_t (p2) w)) ?_
    iterate 7 (first | refine TL.gu ?_ | refine TL.mv ?_)
    refine TL.val rfl rfl rfl (gives_at (v := .pointer (some ⟨b2, o2 + i * 3, none⟩)) rfl rfl rfl (fun w => at_el Try.underlying26 urlsz42 hA2 _ _ i hi2 rfl w)) ?_
    refine TL.gu ?_
    refine TL.val rfl rfl rfl (gives_field (v := .pointer (some ⟨b2, o2 + i * 3 + 2, none⟩)) rfl rfl (fun w => urlfld42_2 _ _ w)) ?_
    refine TL.gu ?_
    refine TL.val rfl rfl rfl (gives_load (v := .int .u32 x.b) rfl rfl urlag35 (fun w1 hw => (hw.bel.cell hbb2).trans (fcs_cell hx hc2 2 _ rfl))) ?_
    refine TL.gu ?_
    refine TL.mv ?_
    refine TL.gu ?_
    refine TL.val rfl rfl rfl (gives_bin rfl rfl rfl (fun w => bin_neq_t (p3) w)) ?_
    refine TL.gu ?_
    refine TL.pk ?_
    refine TL.pk ?_
    refine TL.end_ (TX.then_ (TC.condT rfl (TC.exit_ (TX.then_exit (TX.in_same (TX.then_ (TC.region ?_)))))))
    refine TL.mv ?_
    refine TL.val rfl rfl rfl (gives_bin rfl rfl rfl (fun w => bin_add_ (r := ((i + 1 : Nat) : Int)) (by simp only [IntKind.wrap_i64]; omega) w)) ?_
    refine TL.as_ ?_
    refine TL.end_ ?_
    exact TX.round (⟨i + 1, by omega, hin2⟩) (by show F.length - (i + 1) < F.length - i; omega) ⟨rfl, rfl, rfl, rfl, rfl, trivial⟩ (fun w1 hw => hw)
   ·have hne : x.id ≠ last := fun e => p1 (hfi.1 e)
    have hinc : x.a = a ∨ x.b = a := .inr p3
    refine TC.region ?_
    refine TL.mv ?_
    refine TL.mv ?_
    refine TL.val rfl rfl rfl (gives_bin rfl rfl rfl (fun w => bin_eql_f (p1) w)) ?_
    iterate 6 (first | refine TL.gu ?_ | refine TL.mv ?_)
    refine TL.val rfl rfl rfl (gives_at (v := .pointer (some ⟨b2, o2 + i * 3, none⟩)) rfl rfl rfl (fun w => at_el Try.underlying26 urlsz42 hA2 _ _ i hi2 rfl w)) ?_
    refine TL.gu ?_
    refine TL.val rfl rfl rfl (gives_field (v := .pointer (some ⟨b2, o2 + i * 3 + 1, none⟩)) rfl rfl (fun w => urlfld42_1 _ _ w)) ?_
    refine TL.gu ?_
    refine TL.val rfl rfl rfl (gives_load (v := .int .u32 x.a) rfl rfl urlag35 (fun w1 hw => (hw.bel.cell hbb2).trans (fcs_cell hx hc2 1 _ rfl))) ?_
    refine TL.gu ?_
    refine TL.mv ?_
    refine TL.gu ?_
    refine TL.val rfl rfl rfl (gives_bin rfl rfl rfl (fun w => bin_neq_t (p2) w)) ?_
    iterate 7 (first | refine TL.gu ?_ | refine TL.mv ?_)
    refine TL.val rfl rfl rfl (gives_at (v := .pointer (some ⟨b2, o2 + i * 3, none⟩)) rfl rfl rfl (fun w => at_el Try.underlying26 urlsz42 hA2 _ _ i hi2 rfl w)) ?_
    refine TL.gu ?_
    refine TL.val rfl rfl rfl (gives_field (v := .pointer (some ⟨b2, o2 + i * 3 + 2, none⟩)) rfl rfl (fun w => urlfld42_2 _ _ w)) ?_
    refine TL.gu ?_
    refine TL.val rfl rfl rfl (gives_load (v := .int .u32 x.b) rfl rfl urlag35 (fun w1 hw => (hw.bel.cell hbb2).trans (fcs_cell hx hc2 2 _ rfl))) ?_
    refine TL.gu ?_
    refine TL.mv ?_
    refine TL.gu ?_
    refine TL.val rfl rfl rfl (gives_bin rfl rfl rfl (fun w => bin_neq_f (p3) w)) ?_
    refine TL.gu ?_
    refine TL.pk ?_
    refine TL.pk ?_
    refine TL.end_ (TX.then_ (TC.condF rfl (TC.skip_ (TX.then_ (TC.seq_ (TC.region ?_))))))
    refine TL.mv ?_
    refine TL.mv ?_
    refine TL.val rfl rfl rfl (gives_at (v := .pointer (some ⟨b2, o2 + i * 3, none⟩)) rfl rfl rfl (fun w => at_el Try.underlying26 urlsz42 hA2 _ _ i hi2 rfl w)) ?_
    refine TL.val rfl rfl rfl (gives_field (v := .pointer (some ⟨b2, o2 + i * 3 + 1, none⟩)) rfl rfl (fun w => urlfld42_1 _ _ w)) ?_
    refine TL.val rfl rfl rfl (gives_load (v := .int .u32 x.a) rfl rfl urlag35 (fun w1 hw => (hw.bel.cell hbb2).trans (fcs_cell hx hc2 1 _ rfl))) ?_
    refine TL.as_ ?_
    refine TL.end_ (TX.then_ (TC.seq_ (TC.seq_ (TC.region ?_))))
    refine TL.mv ?_
    refine TL.mv ?_
    refine TL.val rfl rfl rfl (gives_bin rfl rfl rfl (fun w => bin_eql_f (p2) w)) ?_
    refine TL.end_ (TX.then_ (TC.condF rfl (TC.skip_ (TX.then_ (TC.seq_ (TC.region ?_))))))
    iterate 4 (first | refine TL.mv ?_)
    have hoth : oth x a = x.a := by unfold oth; rw [if_neg p2]
    refine TL.pcallPm (α := {y : (Option Addr × Nat) × List Fc × Bool // LdOk F x.a x.id b y.2 ∧ y.2.1.length ≤ y.1.2 ∧ y.1.2 ≤ maxLen}) (fun y => .tuple #[.slice y.1.1.1 y.1.2.1.length y.1.1.2, .bool y.1.2.2]) (fun y => [.row (.slice y.1.1.1 y.1.2.1.length y.1.1.2) 42 3 y.1.2.1.length (fcs y.1.2.1)]) rfl rfl rfl rfl rfl Try.func47 urlnm47 urlbd47 (fun w1 hw => ih (m + 1) x.a x.id ((i : Nat) : Int) w1 ((hr.below hw.bel).more hw.bel.size) (.inr ⟨i, x, rfl, hx, rfl⟩) (by rw [← hoth]; exact hE.step hxm hne hinc) (by omega)) ?_
    rintro ⟨⟨⟨AR, cR⟩, p, ok⟩, hld, hcR1, hcR2⟩
    dsimp only [List.cons_append, List.nil_append] at hld hcR1 hcR2 ⊢
    iterate 5 (first | refine TL.as_ ?_ | refine TL.ex ?_ | refine TL.mv ?_)
    refine TL.end_ (TX.then_ (TC.seq_ ?_))
    cases ok with
    | true =>
     refine TC.region ?_
     refine TL.mv ?_
     refine TL.end_ (TX.then_ (TC.condT rfl (TC.seq_ (TC.region ?_))))
     refine TL.mv ?_
     refine TL.mv ?_
     refine TL.val rfl rfl rfl (gives_at (v := .pointer (some ⟨b2, o2 + i * 3, none⟩)) rfl rfl rfl (fun w => at_el Try.underlying26 urlsz42 hA2 _ _ i hi2 rfl w)) ?_
     refine TL.val rfl rfl rfl (gives_loadR rfl rfl urlag42 urlsz42 (fc_cells_len x) (fun w1 hw j u hu => (hw.bel.cell hbb2).trans (fcs_cell hx hc2 j u hu))) ?_
     refine TL.prowS (e := 42) (size := 3) (cs := x.cells) rfl rfl rfl rfl rfl (fun w => urlbs26_1_44646 _ _ _ w) (by decide) rfl (fun g70 => ?_)
     refine TL.mv ?_
     refine TL.appendT (k := 0) rfl rfl rfl rfl Try.underlying26 urlel26 rfl rfl rfl (fun w1 hw => pm_reads hw (k := 1) rfl) (fcs_one _) (by have := hld.len hF; show _ * 16 ≤ _; omega) ((x :: p).length) (by rw [List.length_cons]; omega) (fcs (x :: p)) (rfl) (fun A72 c72 hA721 hA722 => ?_)
     refine TL.as_ ?_
     refine TL.as_ ?_
     refine TL.end_ (TX.then_ (TC.ret_ (TX.in_ret (TX.then_ret (TX.then_ret (TX.in_ret (TX.then_ret ?_)))))))
     exact ret_pair Try.results47 rfl rfl (fun w1 hw => ⟨⟨((A72, c72), (x :: p, true)), LdOk.found ⟨hxm, hne, hinc, by rw [hoth]; exact hld.2.2 rfl⟩, hA721, hA722⟩, rfl, hw.pick [0] (by decide) rfl⟩)
    | false =>
     have hin2 : ∀ (f : Fc) (q : List Fc), f ∈ F.take (i + 1) → ¬ Trl F a last (f :: q) b := ld_next hx hin (fun q hq => by have h8 := hld.1.2 ⟨q, by rw [← hoth]; exact hq.2.2.2⟩; simp at h8)
     refine TC.region ?_
     refine TL.mv ?_
     refine TL.end_ (TX.then_ (TC.condF rfl (TC.skip_ (TX.in_normal (TX.then_ (TC.region ?_))))))
     refine TL.mv ?_
     refine TL.val rfl rfl rfl (gives_bin rfl rfl rfl (fun w => bin_add_ (r := ((i + 1 : Nat) : Int)) (by simp only [IntKind.wrap_i64]; omega) w)) ?_
     refine TL.as_ ?_
     refine TL.end_ ?_
     exact TX.round (⟨i + 1, by omega, hin2⟩) (by show F.length - (i + 1) < F.length - i; omega) ⟨rfl, rfl, rfl, rfl, rfl, trivial⟩ (fun w1 hw => hw.pick [] (by decide) rfl)
   ·have hne : x.id ≠ last := fun e => p1 (hfi.1 e)
    have hinc : x.a = a ∨ x.b = a := .inl p2
    refine TC.region ?_
    refine TL.mv ?_
    refine TL.mv ?_
    refine TL.val rfl rfl rfl (gives_bin rfl rfl rfl (fun w => bin_eql_f (p1) w)) ?_
    iterate 6 (first | refine TL.gu ?_ | refine TL.mv ?_)
    refine TL.val rfl rfl rfl (gives_at (v := .pointer (some ⟨b2, o2 + i * 3, none⟩)) rfl rfl rfl (fun w => at_el Try.underlying26 urlsz42 hA2 _ _ i hi2 rfl w)) ?_
    refine TL.gu ?_
    refine TL.val rfl rfl rfl (gives_field (v := .pointer (some ⟨b2, o2 + i * 3 + 1, none⟩)) rfl rfl (fun w => urlfld42_1 _ _ w)) ?_
    refine TL.gu ?_
    refine TL.val rfl rfl rfl (gives_load (v := .int .u32 x.a) rfl rfl urlag35 (fun w1 hw => (hw.bel.cell hbb2).trans (fcs_cell hx hc2 1 _ rfl))) ?_
    refine TL.gu ?_
    refine TL.mv ?_
    refine TL.gu ?_
    refine TL.val rfl rfl rfl (gives_bin rfl rfl rfl (fun w => bin_neq_f (p2) w)) ?_
    iterate 12 (first | refine TL.of ?_ | refine TL.gu ?_ | refine TL.pk ?_ | refine TL.mv ?_)
    refine TL.end_ (TX.then_ (TC.condF rfl (TC.skip_ (TX.then_ (TC.seq_ (TC.region ?_))))))
    refine TL.mv ?_
    refine TL.mv ?_
    refine TL.val rfl rfl rfl (gives_at (v := .pointer (some ⟨b2, o2 + i * 3, none⟩)) rfl rfl rfl (fun w => at_el Try.underlying26 urlsz42 hA2 _ _ i hi2 rfl w)) ?_
    refine TL.val rfl rfl rfl (gives_field (v := .pointer (some ⟨b2, o2 + i * 3 + 1, none⟩)) rfl rfl (fun w => urlfld42_1 _ _ w)) ?_
    refine TL.val rfl rfl rfl (gives_load (v := .int .u32 x.a) rfl rfl urlag35 (fun w1 hw => (hw.bel.cell hbb2).trans (fcs_cell hx hc2 1 _ rfl))) ?_
    refine TL.as_ ?_
    refine TL.end_ (TX.then_ (TC.seq_ (TC.seq_ (TC.region ?_))))
    refine TL.mv ?_
    refine TL.mv ?_
    refine TL.val rfl rfl rfl (gives_bin rfl rfl rfl (fun w => bin_eql_t (p2) w)) ?_
    refine TL.end_ (TX.then_ (TC.condT rfl (TC.region ?_)))
    refine TL.mv ?_
    refine TL.mv ?_
    refine TL.val rfl rfl rfl (gives_at (v := .pointer (some ⟨b2, o2 + i * 3, none⟩)) rfl rfl rfl (fun w => at_el Try.underlying26 urlsz42 hA2 _ _ i hi2 rfl w)) ?_
    refine TL.val rfl rfl rfl (gives_field (v := .pointer (some ⟨b2, o2 + i * 3 + 2, none⟩)) rfl rfl (fun w => urlfld42_2 _ _ w)) ?_
    refine TL.val rfl rfl rfl (gives_load (v := .int .u32 x.b) rfl rfl urlag35 (fun w1 hw => (hw.bel.cell hbb2).trans (fcs_cell hx hc2 2 _ rfl))) ?_
    refine TL.as_ ?_
    refine TL.end_ (TX.then_ (TC.seq_ (TC.region ?_)))
    iterate 4 (first | refine TL.mv ?_)
    have hoth : oth x a = x.b := by unfold oth; rw [if_pos p2]
    refine TL.pcallPm (α := {y : (Option Addr × Nat) × List Fc × Bool // LdOk F x.b x.id b y.2 ∧ y.2.1.length ≤ y.1.2 ∧ y.1.2 ≤ maxLen}) (fun y => .tuple #[.slice y.1.1.1 y.1.2.1.length y.1.1.2, .bool y.1.2.2]) (fun y => [.row (.slice y.1.1.1 y.1.2.1.length y.1.1.2) 42 3 y.1.2.1.length (fcs y.1.2.1)]) rfl rfl rfl rfl rfl Try.func47 urlnm47 urlbd47 (fun w1 hw => ih (m + 1) x.b x.id ((i : Nat) : Int) w1 ((hr.below hw.bel).more hw.bel.size) (.inr ⟨i, x, rfl, hx, rfl⟩) (by rw [← hoth]; exact hE.step hxm hne hinc) (by omega)) ?_
    rintro ⟨⟨⟨AR, cR⟩, p, ok⟩, hld, hcR1, hcR2⟩
    dsimp only [List.cons_append, List.nil_append] at hld hcR1 hcR2 ⊢
    iterate 5 (first | refine TL.as_ ?_ | refine TL.ex ?_ | refine TL.mv ?_)
    refine TL.end_ (TX.then_ (TC.seq_ ?_))
    cases ok with
    | true =>
     refine TC.region ?_
     refine TL.mv ?_
     refine TL.end_ (TX.then_ (TC.condT rfl (TC.seq_ (TC.region ?_))))
     refine TL.mv ?_
     refine TL.mv ?_
     refine TL.val rfl rfl rfl (gives_at (v := .pointer (some ⟨b2, o2 + i * 3, none⟩)) rfl rfl rfl (fun w => at_el Try.underlying26 urlsz42 hA2 _ _ i hi2 rfl w)) ?_
     refine TL.val rfl rfl rfl (gives_loadR rfl rfl urlag42 urlsz42 (fc_cells_len x) (fun w1 hw j u hu => (hw.bel.cell hbb2).trans (fcs_cell hx hc2 j u hu))) ?_
     refine TL.prowS (e := 42) (size := 3) (cs := x.cells) rfl rfl rfl rfl rfl (fun w => urlbs26_1_44646 _ _ _ w) (by decide) rfl (fun g70 => ?_)
     refine TL.mv ?_
     refine TL.appendT (k := 0) rfl rfl rfl rfl Try.underlying26 urlel26 rfl rfl rfl (fun w1 hw => pm_reads hw (k := 1) rfl) (fcs_one _) (by have := hld.len hF; show _ * 16 ≤ _; omega) ((x :: p).length) (by rw [List.length_cons]; omega) (fcs (x :: p)) (rfl) (fun A72 c72 hA721 hA722 => ?_)
     refine TL.as_ ?_
     refine TL.as_ ?_
     refine TL.end_ (TX.then_ (TC.ret_ (TX.in_ret (TX.then_ret (TX.then_ret (TX.in_ret (TX.then_ret ?_)))))))
     exact ret_pair Try.results47 rfl rfl (fun w1 hw => ⟨⟨((A72, c72), (x :: p, true)), LdOk.found ⟨hxm, hne, hinc, by rw [hoth]; exact hld.2.2 rfl⟩, hA721, hA722⟩, rfl, hw.pick [0] (by decide) rfl⟩)
    | false =>
     have hin2 : ∀ (f : Fc) (q : List Fc), f ∈ F.take (i + 1) → ¬ Trl F a last (f :: q) b := ld_next hx hin (fun q hq => by have h8 := hld.1.2 ⟨q, by rw [← hoth]; exact hq.2.2.2⟩; simp at h8)
     refine TC.region ?_
     refine TL.mv ?_
     refine TL.end_ (TX.then_ (TC.condF rfl (TC.skip_ (TX.in_normal (TX.then_ (TC.region ?_))))))
     refine TL.mv ?_
     refine TL.val rfl rfl rfl (gives_bin rfl rfl rfl (fun w => bin_add_ (r := ((i + 1 : Nat) : Int)) (by simp only [IntKind.wrap_i64]; omega) w)) ?_
     refine TL.as_ ?_
     refine TL.end_ ?_
     exact TX.round (⟨i + 1, by omega, hin2⟩) (by show F.length - (i + 1) < F.length - i; omega) ⟨rfl, rfl, rfl, rfl, rfl, trivial⟩ (fun w1 hw => hw.pick [] (by decide) rfl)
  ·have q20 := of_decide_eq_false h20
   refine TL.end_ (TX.then_ (TC.condF rfl (TC.exit_ (TX.then_exit (TX.then_exit (TX.in_same (TX.then_ (TC.seq_ (TC.region ?_)))))))))
   refine TL.as_ ?_
   refine TL.as_ ?_
   refine TL.end_ (TX.then_ (TC.ret_ ?_))
   exact ret_pair Try.results47 rfl rfl (fun w1 hw => ⟨⟨((none, 0), ([], false)), LdOk.none_ q16 (by rw [List.take_of_length_le (by omega)] at hin; exact hin), Nat.le_refl _, Nat.zero_le _⟩, rfl, hw.nilrow _ _⟩)
end Go.Proofs.Ytleckflmckbheaa

namespace Go.Proofs.Ytleckflmckbheaa
open Go.RowKit
set_option maxRecDepth 20000
theorem rsame_is (A0 : Option Addr) (n0 c0 : Nat) (l : List Fc) (w : World) (hr : Reads w w.heap.size 3 A0 n0 (fcs l)) (hl : l.length = n0) (a b : Int) {t : Bool} (ht : decide (validF l ∧ repF l a = repF l b) = t) :
    Calls Try.prog 28 #[.slice A0 n0 c0, .int .u32 a, .int .u32 b] w fun e w' => e = .returned (.bool t) ∧ Below w.heap.size w w' := by
  subst ht
  exact rsame_any A0 n0 c0 l w hr hl a b
theorem LdOk.ex {l : List Fc} {a b : Int} {p : List Fc} {t : Bool} (hs : validF l ∧ repF l a = repF l b) (h : LdOk (forest l) a (-1) b (p, t)) : ExOk l a b (p, t) := by
  have hw : ∃ q, Trl (forest l) a (-1) q b := (forest_frs hs.1).way ((rep_conn _ _ _).1 (by rw [forest_rep]; exact hs.2))
  exact ⟨iff_of_true (h.1.2 hw) hs, h.2.1, h.2.2⟩
theorem ExOk.same {l : List Fc} {a b : Int} {x y : List Fc × Bool} (hx : ExOk l a b x) (hy : ExOk l a b y) : x = y := by
  obtain ⟨p, s⟩ := x
  obtain ⟨q, t⟩ := y
  have hst : s = t := by
    have h1 : s = true ↔ t = true := hx.1.trans hy.1.symm
    cases s <;> cases t <;> simp at h1 ⊢
  subst hst
  cases s with
  | false =>
    have e1 : p = [] := hx.2.1 rfl
    have e2 : q = [] := hy.2.1 rfl
    rw [e1, e2]
  | true =>
    have hs := hx.1.1 rfl
    have e := (forest_frs hs.1).only p q a (-1) (-1) b (hx.2.2 rfl) (hy.2.2 rfl)
    rw [e]
theorem BrOk.same {l : List Fc} {id : Int} {x y : Bool × Int} (hx : BrOk l id x) (hy : BrOk l id y) : x = y := by
  obtain ⟨p, s⟩ := x
  obtain ⟨q, t⟩ := y
  have hst : s = t := hx.1.trans hy.1.symm
  subst hst
  by_cases h0 : s = 0
  · obtain ⟨i, u, h1, h2, h3⟩ := hx.2.2 h0
    obtain ⟨j, v, h4, h5, h6⟩ := hy.2.2 h0
    rw [h1] at h4
    cases h4
    rw [h2] at h5
    cases h5
    have h7 : p = true ↔ q = true := h3.trans h6.symm
    have : p = q := by cases p <;> cases q <;> simp at h7 ⊢
    rw [this]
  · have e1 : p = false := hx.2.1 h0
    have e2 : q = false := hy.2.1 h0
    rw [e1, e2]
theorem AddOk.same {l : List Fc} {f : Fc} {x y : List Fc × Int} (hx : AddOk l f x) (hy : AddOk l f y) : x = y := by
  rcases hx with ⟨h1, e1⟩ | ⟨h1, ⟨⟨i, h2⟩, e1⟩ | ⟨h2, h3, e1⟩ | ⟨h2, h3, h4, i, h5, h6⟩⟩ <;> rcases hy with ⟨g1, f1⟩ | ⟨g1, ⟨⟨j, g2⟩, f1⟩ | ⟨g2, g3, f1⟩ | ⟨g2, g3, g4, j, g5, g6⟩⟩
  all_goals first
    | (rw [e1, f1]; done)
    | exact absurd g1 h1
    | exact absurd h1 g1
    | (rw [h2] at g2; cases g2; done)
    | (exact absurd h3 g3)
    | (exact absurd g3 h3)
    | (obtain rfl := h5.uniq g5; exact Prod.ext (h6.trans g6.symm) (h4.trans g4.symm))
theorem urxnm28 : (Try.f28.name == "runtime.NumGoroutine") = false := by decide
theorem urxbd28 : Try.f28.body.isNone = false := rfl
theorem urxnm26 : (Try.f26.name == "runtime.NumGoroutine") = false := by decide
theorem urxbd26 : Try.f26.body.isNone = false := rfl
theorem urxnm47 : (Try.f47.name == "runtime.NumGoroutine") = false := by decide
theorem urxbd47 : Try.f47.body.isNone = false := rfl
set_option maxHeartbeats 1000000 in
theorem rexpl_any (A0 : Option Addr) (n0 c0 : Nat) (l : List Fc) (w : World) (hr : Reads w w.heap.size 3 A0 n0 (fcs l)) (hl : l.length = n0) (hok : ∀ f ∈ l, f.Ok) (a b : Int) :
    Calls Try.prog 27 #[.slice A0 n0 c0, .int .u32 a, .int .u32 b] w fun e w' => ∃ y : {y : (Option Addr × Nat) × List Fc × Bool // ExOk l a b y.2 ∧ y.2.1.length ≤ y.1.2 ∧ y.1.2 ≤ maxLen}, e = .returned (.tuple #[.slice y.1.1.1 y.1.2.1.length y.1.1.2, .bool y.1.2.2]) ∧ Pm w [.row (.slice y.1.1.1 y.1.2.1.length y.1.1.2) 42 3 y.1.2.1.length (fcs y.1.2.1)] w' := by
  subst hl
  refine begin_ (vs := [.slice A0 l.length c0, .int .u32 a, .int .u32 b]) Try.func27 rfl rfl rfl ?_ (Pm.start w)
  refine TC.seq_ ?_
  refine TC.region ?_
  refine TL.val rfl rfl rfl (gives_assign rfl rfl) ?_
  refine TL.val rfl rfl rfl (gives_assign rfl rfl) ?_
  refine TL.end_ ?_
  refine TX.then_ ?_
  refine TC.seq_ ?_
  refine TC.seq_ ?_
  rcases Classical.em (validF l ∧ repF l a = repF l b) with hs | hs
  · refine TC.region ?_
    refine TL.val rfl rfl rfl (gives_move rfl rfl) ?_
    refine TL.val rfl rfl rfl (gives_move rfl rfl) ?_
    refine TL.val rfl rfl rfl (gives_move rfl rfl) ?_
    refine TL.pcall1 (r := .bool true) rfl rfl rfl rfl rfl Try.func28 urxnm28 urxbd28 (fun w1 hw => rsame_is A0 _ c0 l w1 ((hr.below hw.bel).more hw.bel.size) rfl a b (decide_eq_true hs)) ?_
    refine TL.val rfl rfl rfl (gives_boolnot rfl rfl) ?_
    refine TL.end_ ?_
    refine TX.then_ ?_
    refine TC.condF rfl ?_
    refine TC.skip_ ?_
    refine TX.then_ ?_
    refine TC.seq_ ?_
    refine TC.region ?_
    refine TL.val rfl rfl rfl (gives_move rfl rfl) ?_
    refine TL.pcallRow (n := (forV l).length) (ys := fcs (forV l)) rfl rfl rfl rfl rfl Try.func26 urxnm26 urxbd26 (fun w1 hw => rforest_any A0 _ c0 l w1 ((hr.below hw.bel).more hw.bel.size) rfl hok) (fun AF cF hF1 hF2 => ?_)
    refine TL.val rfl rfl rfl (gives_move rfl rfl) ?_
    refine TL.val rfl rfl rfl (gives_move rfl rfl) ?_
    have hfe : forV l = forest l := if_pos hs.1
    have hfr : Frs (forV l) := by rw [hfe]; exact forest_frs hs.1
    have hfa : validF (forV l) := by rw [hfe]; exact validF_forest hs.1
    refine TL.pcallPm (α := {y : (Option Addr × Nat) × List Fc × Bool // LdOk (forV l) a (-1) b y.2 ∧ y.2.1.length ≤ y.1.2 ∧ y.1.2 ≤ maxLen}) (fun y => .tuple #[.slice y.1.1.1 y.1.2.1.length y.1.1.2, .bool y.1.2.2]) (fun y => [.row (.slice y.1.1.1 y.1.2.1.length y.1.1.2) 42 3 y.1.2.1.length (fcs y.1.2.1)]) rfl rfl rfl rfl rfl Try.func47 urxnm47 urxbd47 (fun w1 hw => lead_any AF cF (forV l) hfr hfa.asc hfa.1 b ((forV l).length + 1) 0 a (-1) (-1) w1 (by obtain ⟨B9, h8⟩ := pm_reads hw (k := 0) rfl; exact reads_up h8 (pm_row_lt hw (k := 0) rfl)) (.inl ⟨rfl, rfl⟩) (Ext.start _ _ _) (by omega)) ?_
    rintro ⟨⟨⟨AR, cR⟩, p, ok⟩, hld, hcR1, hcR2⟩
    dsimp only [List.cons_append, List.nil_append] at hld hcR1 hcR2 ⊢
    refine TL.val rfl rfl rfl (gives_extract rfl rfl rfl) ?_
    refine TL.val rfl rfl rfl (gives_extract rfl rfl rfl) ?_
    refine TL.val rfl rfl rfl (gives_assign rfl rfl) ?_
    refine TL.val rfl rfl rfl (gives_assign rfl rfl) ?_
    refine TL.end_ ?_
    refine TX.then_ ?_
    refine TC.ret_ ?_
    exact ret_pair Try.results27 rfl rfl (fun w1 hw => ⟨⟨((AR, cR), (p, ok)), LdOk.ex hs (by rw [← hfe]; exact hld), hcR1, hcR2⟩, rfl, hw.pick [0] (by decide) rfl⟩)
  · refine TC.region ?_
    refine TL.val rfl rfl rfl (gives_move rfl rfl) ?_
    refine TL.val rfl rfl rfl (gives_move rfl rfl) ?_
    refine TL.val rfl rfl rfl (gives_move rfl rfl) ?_
    refine TL.pcall1 (r := .bool false) rfl rfl rfl rfl rfl Try.func28 urxnm28 urxbd28 (fun w1 hw => rsame_is A0 _ c0 l w1 ((hr.below hw.bel).more hw.bel.size) rfl a b (decide_eq_false hs)) ?_
    refine TL.val rfl rfl rfl (gives_boolnot rfl rfl) ?_
    refine TL.end_ ?_
    refine TX.then_ ?_
    refine TC.condT rfl ?_
    refine TC.seq_ ?_
    refine TC.region ?_
    refine TL.val rfl rfl rfl (gives_assign rfl rfl) ?_
    refine TL.val rfl rfl rfl (gives_assign rfl rfl) ?_
    refine TL.end_ ?_
    refine TX.then_ ?_
    refine TC.ret_ ?_
    refine TX.then_ret ?_
    exact ret_pair Try.results27 rfl rfl (fun w1 hw => ⟨⟨((none, 0), ([], false)), ⟨iff_of_false (by simp) hs, fun _ => rfl, fun h => (by cases h)⟩, Nat.le_refl _, Nat.zero_le _⟩, rfl, hw.nilrow _ _⟩)
end Go.Proofs.Ytleckflmckbheaa

namespace Go.Proofs.Ytleckflmckbheaa
open Go.RowKit
set_option maxRecDepth 20000
theorem urfnm32 : (Try.f32.name == "runtime.NumGoroutine") = false := by decide
theorem urfbd32 : Try.f32.body.isNone = false := rfl
theorem urfnm49 : (Try.f49.name == "runtime.NumGoroutine") = false := by decide
theorem urfbd49 : Try.f49.body.isNone = false := rfl
theorem urfsz42 (w : World) : (sizeOf 42).run Try.prog w = .ok 3 w := rfl
theorem urfag42 (w : World) : (isAgg 42).run Try.prog w = .ok true w := rfl
theorem urfzv42 (w : World) : (zeroValue 42).run Try.prog w = .ok (.agg #[.int .i64 0, .int .u32 0, .int .u32 0]) w := rfl
theorem urffld42_1 (g o : Nat) (w : World) : (Instr.fieldAt 42 (.pointer (some ⟨g, o, none⟩)) 1).run Try.prog w = .ok (.pointer (some ⟨g, o + 1, none⟩)) w := by kernel_rfl
theorem urfag35 (w : World) : (isAgg 35).run Try.prog w = .ok false w := rfl
theorem urffld42_2 (g o : Nat) (w : World) : (Instr.fieldAt 42 (.pointer (some ⟨g, o, none⟩)) 2).run Try.prog w = .ok (.pointer (some ⟨g, o + 2, none⟩)) w := by kernel_rfl
theorem urfnm46 : (Try.f46.name == "runtime.NumGoroutine") = false := by decide
theorem urfbd46 : Try.f46.body.isNone = false := rfl
theorem urfnm45 : (Try.f45.name == "runtime.NumGoroutine") = false := by decide
theorem urfbd45 : Try.f45.body.isNone = false := rfl
set_option maxHeartbeats 1000000 in
theorem rbr_any (A0 : Option Addr) (n0 c0 : Nat) (l : List Fc) (w : World) (hr : Reads w w.heap.size 3 A0 n0 (fcs l)) (hl : l.length = n0) (hnc : l.length ≤ c0) (id : Int) :
    Calls Try.prog 33 #[.slice A0 n0 c0, .int .i64 id] w fun e w' => ∃ x : {y : Bool × Int // BrOk l id y}, e = .returned (.tuple #[.bool x.1.1, .int .i64 x.1.2]) ∧ Below w.heap.size w w' := by
  subst hl
  refine begin_ (vs := [.slice A0 l.length c0, .int .i64 id]) Try.func33 rfl rfl rfl ?_ (Pm.start w)
  refine TC.seq_ ?_
  refine TC.region ?_
  refine TL.val rfl rfl rfl (gives_assign rfl rfl) ?_
  refine TL.val rfl rfl rfl (gives_assign rfl rfl) ?_
  refine TL.end_ ?_
  refine TX.then_ ?_
  refine TC.seq_ ?_
  refine TC.region ?_
  refine TL.val rfl rfl rfl (gives_move rfl rfl) ?_
  refine TL.val rfl rfl rfl (gives_move rfl rfl) ?_
  refine TL.pcallPm (α := {y : (Option Addr × Nat) × List Fc × Int // y.2 = remP l id ∧ y.2.1.length ≤ y.1.2 ∧ y.1.2 ≤ maxLen}) (fun y => .tuple #[.slice y.1.1.1 y.1.2.1.length y.1.1.2, .int .i64 y.1.2.2]) (fun y => [.row (.slice y.1.1.1 y.1.2.1.length y.1.1.2) 42 3 y.1.2.1.length (fcs y.1.2.1)]) rfl rfl rfl rfl rfl Try.func32 urfnm32 urfbd32 (fun w1 hw => rrem_any A0 _ c0 l w1 ((hr.below hw.bel).more hw.bel.size) rfl hnc id) ?_
  rintro ⟨⟨⟨AA, cc⟩, rm, e0⟩, hrm, hcc1, hcc2⟩
  dsimp only [List.cons_append, List.nil_append] at hrm hcc1 hcc2 ⊢
  refine TL.val rfl rfl rfl (gives_move rfl rfl) ?_
  refine TL.val rfl rfl rfl (gives_extract rfl rfl rfl) ?_
  refine TL.val rfl rfl rfl (gives_extract rfl rfl rfl) ?_
  refine TL.val rfl rfl rfl (gives_assign rfl rfl) ?_
  refine TL.val rfl rfl rfl (gives_assign rfl rfl) ?_
  refine TL.end_ ?_
  refine TX.then_ ?_
  refine TC.seq_ ?_
  refine TC.seq_ ?_
  refine TC.region ?_
  refine TL.val rfl rfl rfl (gives_move rfl rfl) ?_
  refine TL.vsplit rfl rfl rfl (gives_bin rfl rfl rfl (fun w => bin_neq w)) (fun h16 => ?_) (fun h16 => ?_)
  · have q16 := of_decide_eq_true h16
    refine TL.end_ ?_
    refine TX.then_ ?_
    refine TC.condT rfl ?_
    refine TC.seq_ ?_
    refine TC.region ?_
    refine TL.val rfl rfl rfl (gives_move rfl rfl) ?_
    refine TL.val rfl rfl rfl (gives_assign rfl rfl) ?_
    refine TL.val rfl rfl rfl (gives_assign rfl rfl) ?_
    refine TL.end_ ?_
    refine TX.then_ ?_
    refine TC.ret_ ?_
    refine TX.then_ret ?_
    exact ret_pair Try.results33 rfl rfl (fun w1 hw => ⟨⟨(false, e0), by rw [show e0 = (remP l id).2 by rw [← hrm]]; exact BrOk.bad (by rw [← hrm]; exact q16)⟩, rfl, hw.bel⟩)
  · have q16 := of_decide_eq_false h16
    have he0 : e0 = 0 := Decidable.byContradiction q16
    subst he0
    obtain ⟨hV, k, hix, hrl⟩ := remP_ok hrm
    have hl1 : l.length ≤ 1024 := hV.1
    obtain ⟨x, hx, hxi⟩ := ixF_at hix
    have hkl := (List.getElem?_eq_some_iff.1 hx).1
    obtain ⟨b2, o2, hA2, hbb2, hc2⟩ := hr.ad (by omega) (by decide)
    have hVr : validF rm := by rw [hrl]; exact validF_sub hV (List.eraseIdx_sublist _ _)
    have hrl1 : rm.length ≤ 1024 := hVr.1
    refine TL.end_ ?_
    refine TX.then_ ?_
    refine TC.condF rfl ?_
    refine TC.skip_ ?_
    refine TX.then_ ?_
    refine TC.seq_ ?_
    refine TC.region ?_
    refine TL.val rfl rfl rfl (gives_move rfl rfl) ?_
    refine TL.val rfl rfl rfl (gives_move rfl rfl) ?_
    refine TL.val rfl rfl rfl (gives_move rfl rfl) ?_
    refine TL.pcall1 (r := .int .i64 ((k : Nat) : Int)) rfl rfl rfl rfl rfl Try.func49 urfnm49 urfbd49 (fun w1 hw => by have h9 := rat_any A0 _ c0 l w1 ((hr.below hw.bel).more hw.bel.size) rfl (by omega) id; rw [show atF l id = ((k : Nat) : Int) from by unfold atF; rw [hix]] at h9; exact h9) ?_
    refine TL.val rfl rfl rfl (gives_at (v := .pointer (some ⟨b2, o2 + k * 3, none⟩)) rfl rfl rfl (fun w => at_el Try.underlying26 urfsz42 hA2 _ _ k hkl rfl w)) ?_
    refine TL.val rfl rfl rfl (gives_loadR rfl rfl urfag42 urfsz42 (fc_cells_len x) (fun w1 hw j u hu => (hw.bel.cell hbb2).trans (fcs_cell hx hc2 j u hu))) ?_
    refine TL.pnew rfl rfl rfl (exec_alloc (cs := [.int .i64 0, .int .u32 0, .int .u32 0]) rfl urfzv42 rfl) (fun g8 => ?_)
    refine TL.pstore (k := 0) (vs := x.cells) rfl rfl rfl rfl rfl rfl rfl urfsz42 (fc_one x) (by show 3 ≤ 3; decide) (L' := [.blk g8 42 x.cells, .row (.slice AA rm.length cc) 42 3 rm.length (fcs rm)]) rfl ?_
    refine TL.end_ ?_
    refine TX.then_ ?_
    refine TC.seq_ ?_
    rcases Classical.em (x.b ∈ compF rm x.a) with p2 | p2
    · refine TC.held (ls := #[false, false, false, false, false, false, false, false, false, false]) (Pm w [.blk g8 42 [.int .i64 x.id, .int .u32 x.a, .int .u32 x.b]]) (by kernel_rfl) rfl rfl (fun w hw => hw.drawn _) ?_
      refine TH.take (listed' := #[true, false, false, false, false, false, false, false, false, false]) 0 rfl (by kernel_rfl) (by kernel_rfl) (by kernel_rfl) rfl rfl rfl rfl (gives_move rfl rfl) (fun w1 hw => hw.pick [0] (by decide) rfl) ?_
      refine TH.take (listed' := #[true, true, false, false, false, false, false, false, false, false]) 1 rfl (by kernel_rfl) (by kernel_rfl) (by kernel_rfl) rfl rfl rfl rfl (gives_field (v := .pointer (some ⟨g8, 1, none⟩)) rfl rfl (fun w => urffld42_1 _ _ w)) (fun w1 hw => hw.pick [0] (by decide) rfl) ?_
      refine TH.take (listed' := #[true, true, true, false, false, false, false, false, false, false]) 2 rfl (by kernel_rfl) (by kernel_rfl) (by kernel_rfl) rfl rfl rfl rfl (pm_load (k := 0) (i := 1) rfl rfl urfag35 rfl rfl) (fun w1 hw => hw.pick [0] (by decide) rfl) ?_
      refine TH.take (listed' := #[true, true, true, false, true, false, false, false, false, false]) 4 rfl (by kernel_rfl) (by kernel_rfl) (by kernel_rfl) rfl rfl rfl rfl (gives_field (v := .pointer (some ⟨g8, 2, none⟩)) rfl rfl (fun w => urffld42_2 _ _ w)) (fun w1 hw => hw.pick [0] (by decide) rfl) ?_
      refine TH.take (listed' := #[true, true, true, false, true, true, false, false, false, false]) 5 rfl (by kernel_rfl) (by kernel_rfl) (by kernel_rfl) rfl rfl rfl rfl (pm_load (k := 0) (i := 2) rfl rfl urfag35 rfl rfl) (fun w1 hw => hw.pick [0] (by decide) rfl) ?_
      refine TH.only' (listed' := #[true, true, true, true, true, true, false, false, false, false]) 3 rfl (by kernel_rfl) rfl ?_
      refine TL.pcallPm (α := {p : Option Addr × Nat // (compF rm x.a).length ≤ p.2 ∧ p.2 ≤ maxLen}) (fun y => .slice y.1.1 (compF rm x.a).length y.1.2) (fun y => [.row (.slice y.1.1 (compF rm x.a).length y.1.2) 35 1 (compF rm x.a).length (uv (compF rm x.a))]) rfl rfl rfl rfl rfl Try.func46 urfnm46 urfbd46 (fun w1 hw => rcls_any AA _ cc rm w1 (by obtain ⟨B9, h8⟩ := pm_reads hw (k := 1) rfl; exact reads_up h8 (pm_row_lt hw (k := 1) rfl)) rfl hrl1 x.a) ?_
      rintro ⟨⟨AK, cK⟩, hK1, hK2⟩
      dsimp only [List.cons_append, List.nil_append]
      refine TL.end_ ?_
      refine TX.held (fun w1 hw => hw.pick [1] (by decide) rfl) ?_
      refine TH.only' (listed' := #[true, true, true, true, true, true, true, false, false, false]) 6 rfl (by kernel_rfl) rfl ?_
      refine TL.pcall1 (r := .bool true) rfl rfl rfl rfl rfl Try.func45 urfnm45 urfbd45 (fun w1 hw => has_is AK _ cK (compF rm x.a) w1 (by obtain ⟨B9, h8⟩ := pm_reads hw (k := 0) rfl; exact reads_up h8 (pm_row_lt hw (k := 0) rfl)) rfl (comp_len _ _ hrl1) x.b (decide_eq_true p2)) ?_
      refine TL.end_ ?_
      refine TX.held (fun w1 hw => hw.pick [1] (by decide) rfl) ?_
      refine TH.take (listed' := #[true, true, true, true, true, true, true, true, false, false]) 7 rfl (by kernel_rfl) (by kernel_rfl) (by kernel_rfl) rfl rfl rfl rfl (gives_boolnot rfl rfl) (fun w1 hw => hw.pick [1] (by decide) rfl) ?_
      refine TH.take (listed' := #[true, true, true, true, true, true, true, true, true, false]) 8 rfl (by kernel_rfl) (by kernel_rfl) (by kernel_rfl) rfl rfl rfl rfl (gives_assign rfl rfl) (fun w1 hw => hw.pick [1] (by decide) rfl) ?_
      refine TH.take (listed' := #[true, true, true, true, true, true, true, true, true, true]) 9 rfl (by kernel_rfl) (by kernel_rfl) (by kernel_rfl) rfl rfl rfl rfl (gives_assign rfl rfl) (fun w1 hw => hw.pick [1] (by decide) rfl) ?_
      refine TH.done (by kernel_rfl) ?_
      refine TX.then_ ?_
      refine TC.ret_ ?_
      exact ret_pair Try.results33 rfl rfl (fun w1 hw => ⟨⟨(false, 0), BrOk.ok hV hix hx (by rw [← hrl]; exact iff_of_false (by simp) (fun hh => hh ⟨hVr, mem_comp.1 p2⟩))⟩, rfl, hw.bel⟩)
    · refine TC.held (ls := #[false, false, false, false, false, false, false, false, false, false]) (Pm w [.blk g8 42 [.int .i64 x.id, .int .u32 x.a, .int .u32 x.b]]) (by kernel_rfl) rfl rfl (fun w hw => hw.drawn _) ?_
      refine TH.take (listed' := #[true, false, false, false, false, false, false, false, false, false]) 0 rfl (by kernel_rfl) (by kernel_rfl) (by kernel_rfl) rfl rfl rfl rfl (gives_move rfl rfl) (fun w1 hw => hw.pick [0] (by decide) rfl) ?_
      refine TH.take (listed' := #[true, true, false, false, false, false, false, false, false, false]) 1 rfl (by kernel_rfl) (by kernel_rfl) (by kernel_rfl) rfl rfl rfl rfl (gives_field (v := .pointer (some ⟨g8, 1, none⟩)) rfl rfl (fun w => urffld42_1 _ _ w)) (fun w1 hw => hw.pick [0] (by decide) rfl) ?_
      refine TH.take (listed' := #[true, true, true, false, false, false, false, false, false, false]) 2 rfl (by kernel_rfl) (by kernel_rfl) (by kernel_rfl) rfl rfl rfl rfl (pm_load (k := 0) (i := 1) rfl rfl urfag35 rfl rfl) (fun w1 hw => hw.pick [0] (by decide) rfl) ?_
      refine TH.take (listed' := #[true, true, true, false, true, false, false, false, false, false]) 4 rfl (by kernel_rfl) (by kernel_rfl) (by kernel_rfl) rfl rfl rfl rfl (gives_field (v := .pointer (some ⟨g8, 2, none⟩)) rfl rfl (fun w => urffld42_2 _ _ w)) (fun w1 hw => hw.pick [0] (by decide) rfl) ?_
      refine TH.take (listed' := #[true, true, true, false, true, true, false, false, false, false]) 5 rfl (by kernel_rfl) (by kernel_rfl) (by kernel_rfl) rfl rfl rfl rfl (pm_load (k := 0) (i := 2) rfl rfl urfag35 rfl rfl) (fun w1 hw => hw.pick [0] (by decide) rfl) ?_
      refine TH.only' (listed' := #[true, true, true, true, true, true, false, false, false, false]) 3 rfl (by kernel_rfl) rfl ?_
      refine TL.pcallPm (α := {p : Option Addr × Nat // (compF rm x.a).length ≤ p.2 ∧ p.2 ≤ maxLen}) (fun y => .slice y.1.1 (compF rm x.a).length y.1.2) (fun y => [.row (.slice y.1.1 (compF rm x.a).length y.1.2) 35 1 (compF rm x.a).length (uv (compF rm x.a))]) rfl rfl rfl rfl rfl Try.func46 urfnm46 urfbd46 (fun w1 hw => rcls_any AA _ cc rm w1 (by obtain ⟨B9, h8⟩ := pm_reads hw (k := 1) rfl; exact reads_up h8 (pm_row_lt hw (k := 1) rfl)) rfl hrl1 x.a) ?_
      rintro ⟨⟨AK, cK⟩, hK1, hK2⟩
      dsimp only [List.cons_append, List.nil_append]
      refine TL.end_ ?_
      refine TX.held (fun w1 hw => hw.pick [1] (by decide) rfl) ?_
      refine TH.only' (listed' := #[true, true, true, true, true, true, true, false, false, false]) 6 rfl (by kernel_rfl) rfl ?_
      refine TL.pcall1 (r := .bool false) rfl rfl rfl rfl rfl Try.func45 urfnm45 urfbd45 (fun w1 hw => has_is AK _ cK (compF rm x.a) w1 (by obtain ⟨B9, h8⟩ := pm_reads hw (k := 0) rfl; exact reads_up h8 (pm_row_lt hw (k := 0) rfl)) rfl (comp_len _ _ hrl1) x.b (decide_eq_false p2)) ?_
      refine TL.end_ ?_
      refine TX.held (fun w1 hw => hw.pick [1] (by decide) rfl) ?_
      refine TH.take (listed' := #[true, true, true, true, true, true, true, true, false, false]) 7 rfl (by kernel_rfl) (by kernel_rfl) (by kernel_rfl) rfl rfl rfl rfl (gives_boolnot rfl rfl) (fun w1 hw => hw.pick [1] (by decide) rfl) ?_
      refine TH.take (listed' := #[true, true, true, true, true, true, true, true, true, false]) 8 rfl (by kernel_rfl) (by kernel_rfl) (by kernel_rfl) rfl rfl rfl rfl (gives_assign rfl rfl) (fun w1 hw => hw.pick [1] (by decide) rfl) ?_
      refine TH.take (listed' := #[true, true, true, true, true, true, true, true, true, true]) 9 rfl (by kernel_rfl) (by kernel_rfl) (by kernel_rfl) rfl rfl rfl rfl (gives_assign rfl rfl) (fun w1 hw => hw.pick [1] (by decide) rfl) ?_
      refine TH.done (by kernel_rfl) ?_
      refine TX.then_ ?_
      refine TC.ret_ ?_
      exact ret_pair Try.results33 rfl rfl (fun w1 hw => ⟨⟨(true, 0), BrOk.ok hV hix hx (by rw [← hrl]; exact iff_of_true rfl (fun hh => p2 (mem_comp.2 hh.2)))⟩, rfl, hw.bel⟩)
end Go.Proofs.Ytleckflmckbheaa

namespace Go.Proofs.Ytleckflmckbheaa
open Go.RowKit
set_option maxRecDepth 20000
theorem rsort_is (A0 : Option Addr) (n0 c0 : Nat) (xs : List Int) (w : World) (hr : Reads w w.heap.size 1 A0 n0 (uv xs)) (hl : xs.length = n0) (hl1 : xs.length ≤ 100000) {ys : List Int} (hy : asc xs = ys) :
  Calls Try.prog 44 #[.slice A0 n0 c0] w fun e w' => ∃ y : {p : Option Addr × Nat // ys.length ≤ p.2 ∧ p.2 ≤ maxLen}, e = .returned (.slice y.1.1 ys.length y.1.2) ∧ Pm w [.row (.slice y.1.1 ys.length y.1.2) 35 1 ys.length (uv ys)] w' := by
 subst hy
 exact rsort_any A0 n0 c0 xs w hr hl hl1
theorem Pm.segPush2 {α : Type} {e : TypeId} {size : Nat} {enc : List α → List Value} {w0 : Base} {w : World} {g q r : Pc} {ss : List (Sg α)} {s' : Sg α} (h : Pm w0 ([g, s'.pc e size enc, q, r] ++ segG e size enc ss) w) : Pm w0 ([q, r] ++ segG e size enc (ss ++ [s'])) w := by
 have h1 : Pm w0 (s'.pc e size enc :: ([q, r] ++ segG e size enc ss)) w := h.sel (.cons _ (List.Sublist.refl _))
 refine h1.permute ?_
 unfold segG
 rw [List.map_append, ← List.append_assoc]
 exact (List.perm_append_singleton _ _).symm
noncomputable def clsP (l : List Fc) (i : Nat) : List (List Int) := (ks (repF l) ((asc (adrs l)).take i)).map fun r => (asc (adrs l)).filter fun x => decide (repF l x = r)
theorem clsP_fin {l : List Fc} {i : Nat} (h : (asc (adrs l)).length ≤ i) : clsP l i = clsL l := by
 unfold clsP clsL cls
 rw [List.take_of_length_le h]
theorem clsP_mem {l : List Fc} {i : Nat} {ss : List (Sg Int)} (h : ss.map (·.l) = clsP l i) {s : Sg Int} (hs : s ∈ ss) : ∃ r ∈ ks (repF l) ((asc (adrs l)).take i), s.l = (asc (adrs l)).filter fun x => decide (repF l x = r) := by
 have : s.l ∈ clsP l i := by rw [← h]; exact List.mem_map.2 ⟨s, hs, rfl⟩
 obtain ⟨r, hr, e⟩ := List.mem_map.1 this
 exact ⟨r, hr, e.symm⟩
theorem clsP_len {l : List Fc} {i : Nat} {ss : List (Sg Int)} (h : ss.map (·.l) = clsP l i) {s : Sg Int} (hs : s ∈ ss) (hl : (asc (adrs l)).length ≤ 100000) : s.l.length ≤ 100000 := by
 obtain ⟨r, _, e⟩ := clsP_mem h hs
 rw [e]
 exact Nat.le_trans (List.length_filter_le _ _) hl
theorem clsP_few {l : List Fc} {i : Nat} {ss : List (Sg Int)} (h : ss.map (·.l) = clsP l i) : ss.length ≤ (asc (adrs l)).length := by
 have e : ss.length = (ks (repF l) ((asc (adrs l)).take i)).length := by rw [← List.length_map (f := (·.l)), h]; unfold clsP; rw [List.length_map]
 rw [e]
 have key : ∀ (L k : List Int), (ksF (repF l) k L).length ≤ k.length + L.length := by
  intro L
  induction L with
  | nil => intro k; exact Nat.le_refl _
  | cons a L ih =>
   intro k
   have h1 := ih (if repF l a ∈ k then k else k ++ [repF l a])
   unfold ksF
   refine Nat.le_trans h1 ?_
   split
   ·simp only [List.length_cons]; omega
   ·simp only [List.length_append, List.length_cons, List.length_nil]; omega
 have h2 := key ((asc (adrs l)).take i) []
 have h3 := List.length_take (l := asc (adrs l)) (i := i)
 unfold ks
 simp only [List.length_nil] at h2
 omega
theorem clsP_seen {l : List Fc} {i : Nat} {ss : List (Sg Int)} (h : ss.map (·.l) = clsP l i) {v : Int} (hv : v ∈ asc (adrs l)) : (∃ s ∈ ss, v ∈ s.l) ↔ repF l v ∈ ks (repF l) ((asc (adrs l)).take i) := by
 constructor
 ·rintro ⟨s, hs, hm⟩
  obtain ⟨r, hr, e⟩ := clsP_mem h hs
  rw [e, List.mem_filter] at hm
  rw [of_decide_eq_true hm.2]
  exact hr
 ·intro hr
  have : ((asc (adrs l)).filter fun x => decide (repF l x = repF l v)) ∈ ss.map (·.l) := by rw [h]; exact List.mem_map.2 ⟨_, hr, rfl⟩
  obtain ⟨s, hs, e⟩ := List.mem_map.1 this
  exact ⟨s, hs, by rw [e, List.mem_filter]; exact ⟨hv, decide_eq_true rfl⟩⟩
theorem clsP_old {l : List Fc} {i : Nat} {ss : List (Sg Int)} (h : ss.map (·.l) = clsP l i) {v : Int} (hv : (asc (adrs l))[i]? = some v) (hs : repF l v ∈ ks (repF l) ((asc (adrs l)).take i)) : ss.map (·.l) = clsP l (i + 1) := by
 rw [h]
 unfold clsP
 rw [List.take_add_one, hv]
 have : ks (repF l) ((asc (adrs l)).take i ++ [v]) = ks (repF l) ((asc (adrs l)).take i) := by unfold ks; rw [ksF_snoc]; exact if_pos hs
 show _ = (ks (repF l) ((asc (adrs l)).take i ++ [v])).map _
 rw [this]
theorem comp_filter {l : List Fc} {v : Int} (hv : v ∈ asc (adrs l)) : compF l v = (asc (adrs l)).filter fun x => decide (repF l x = repF l v) := by
 refine asc_eq _ _ (asc_asc _) ((asc_asc (adrs l)).sublist (List.filter_sublist)) fun x => ?_
 rw [show x ∈ compF l v ↔ _ from mem_comp, List.mem_filter]
 refine ⟨fun h => ⟨?_, decide_eq_true h.symm⟩, fun h => (of_decide_eq_true h.2).symm⟩
 rcases conn_adr ((rep_conn _ _ _).1 h) with e | h1
 ·rw [← e]; exact hv
 ·exact (mem_asc _ _).2 h1.2
theorem clsP_new {l : List Fc} {i : Nat} {ss : List (Sg Int)} {A : Option Addr} {c : Nat} (h : ss.map (·.l) = clsP l i) {v : Int} (hv : (asc (adrs l))[i]? = some v) (hvm : v ∈ asc (adrs l)) (hs : ¬ repF l v ∈ ks (repF l) ((asc (adrs l)).take i)) : (ss ++ [(⟨A, c, compF l v⟩ : Sg Int)]).map (·.l) = clsP l (i + 1) := by
 rw [List.map_append, h]
 unfold clsP
 rw [List.take_add_one, hv]
 have : ks (repF l) ((asc (adrs l)).take i ++ [v]) = ks (repF l) ((asc (adrs l)).take i) ++ [repF l v] := by unfold ks; rw [ksF_snoc]; exact if_neg hs
 show _ = (ks (repF l) ((asc (adrs l)).take i ++ [v])).map _
 rw [this, List.map_append]
 show _ ++ [compF l v] = _ ++ [_]
 rw [comp_filter hvm]
theorem urgnm23 : (Try.f23.name == "runtime.NumGoroutine") = false := by decide
theorem urgbd23 : Try.f23.body.isNone = false := rfl
theorem urgsz42 (w : World) : (sizeOf 42).run Try.prog w = .ok 3 w := rfl
theorem urgfld42_1 (g o : Nat) (w : World) : (Instr.fieldAt 42 (.pointer (some ⟨g, o, none⟩)) 1).run Try.prog w = .ok (.pointer (some ⟨g, o + 1, none⟩)) w := by kernel_rfl
theorem urgag35 (w : World) : (isAgg 35).run Try.prog w = .ok false w := rfl
theorem urgfld42_2 (g o : Nat) (w : World) : (Instr.fieldAt 42 (.pointer (some ⟨g, o, none⟩)) 2).run Try.prog w = .ok (.pointer (some ⟨g, o + 2, none⟩)) w := by kernel_rfl
theorem urgbs31_2_20249 (a0_0 : Int) (a1_0 : Int) (w : World) : (Instr.buildSlice 31 2 #[(0, .int .u32 a0_0), (1, .int .u32 a1_0)]).run Try.prog w = .ok (.slice (some ⟨w.heap.size, 0, none⟩) 2 2) (w.alloc (.cells [.int .u32 a0_0, .int .u32 a1_0].toArray 35)) := by kernel_rfl
theorem urgel31 : Elem Try.prog 31 35 1 4 := Elem.mk' Try.underlying31 (z := .int .u32 0) (by kernel_rfl) rfl (by omega) (by omega)
theorem urgnm44 : (Try.f44.name == "runtime.NumGoroutine") = false := by decide
theorem urgbd44 : Try.f44.body.isNone = false := rfl
theorem urgsz31 (w : World) : (sizeOf 31).run Try.prog w = .ok 1 w := rfl
theorem urgag31 (w : World) : (isAgg 31).run Try.prog w = .ok false w := rfl
theorem urgsz35 (w : World) : (sizeOf 35).run Try.prog w = .ok 1 w := rfl
theorem urgnm45 : (Try.f45.name == "runtime.NumGoroutine") = false := by decide
theorem urgbd45 : Try.f45.body.isNone = false := rfl
theorem urgnm46 : (Try.f46.name == "runtime.NumGoroutine") = false := by decide
theorem urgbd46 : Try.f46.body.isNone = false := rfl
theorem urgbs28_1_58639 (a0_0 : Option Addr) (a0_0n a0_0c : Nat) (w : World) : (Instr.buildSlice 28 1 #[(0, .slice a0_0 a0_0n a0_0c)]).run Try.prog w = .ok (.slice (some ⟨w.heap.size, 0, none⟩) 1 1) (w.alloc (.cells [.slice a0_0 a0_0n a0_0c].toArray 31)) := by kernel_rfl
theorem urgel28 : Elem Try.prog 28 31 1 24 := Elem.mk' Try.underlying28 (z := .slice none 0 0) (by kernel_rfl) rfl (by omega) (by omega)
set_option maxHeartbeats 1000000 in
theorem rclss_any (A0 : Option Addr) (n0 c0 : Nat) (l : List Fc) (w : World) (hr : Reads w w.heap.size 3 A0 n0 (fcs l)) (hl : l.length = n0) (hok : ∀ f ∈ l, f.Ok) :
  Calls Try.prog 24 #[.slice A0 n0 c0] w fun e w' => ∃ x : {y : (Option Addr × Nat) × List (Sg Int) // y.2.map (·.l) = clsV l ∧ y.2.length ≤ y.1.2 ∧ y.1.2 ≤ maxLen}, e = .returned (.slice x.1.1.1 x.1.2.length x.1.1.2) ∧ Pm w ([.row (.slice x.1.1.1 x.1.2.length x.1.1.2) 31 1 x.1.2.length (x.1.2.map Sg.val)] ++ segG 35 1 uv x.1.2) w' := by
 subst hl
 refine begin_ (vs := [.slice A0 l.length c0]) Try.func24 rfl rfl rfl ?_ (Pm.start w)
 refine TC.seq_ (TC.region ?_)
 refine TL.as_ ?_
 refine TL.end_ (TX.then_ (TC.seq_ (TC.seq_ ?_)))
 rcases Classical.em (validF l) with hV | hV
 ·have hl1 : l.length ≤ 1024 := hV.1
  refine TC.region ?_
  refine TL.mv ?_
  refine TL.pcall1 (r := .bool true) rfl rfl rfl rfl rfl Try.func23 urgnm23 urgbd23 (fun w1 hw => rvalid_is A0 _ c0 l w1 ((hr.below hw.bel).more hw.bel.size) rfl (decide_eq_true hV)) ?_
  refine TL.val rfl rfl rfl (gives_boolnot rfl rfl) ?_
  refine TL.end_ (TX.then_ (TC.condF rfl (TC.skip_ (TX.then_ (TC.seq_ (TC.region ?_))))))
  refine TL.as_ ?_
  refine TL.end_ (TX.then_ (TC.seq_ (TC.seq_ (TC.region ?_))))
  refine TL.as_ ?_
  refine TL.end_ (TX.then_ (TC.block ?_))
  refine TC.nilrow 35 1 ?_
  refine TC.loop_ (α := {y : Nat × (Option Addr × Nat) // y.1 ≤ l.length ∧ (adrs (l.take y.1)).length ≤ y.2.2 ∧ y.2.2 ≤ maxLen}) (fun y => [(0, .slice A0 l.length c0), (3, .slice y.1.2.1 ((adrs (l.take y.1.1)).length) y.1.2.2), (4, .int .i64 ((y.1.1 : Nat) : Int))]) (fun y => Pm w [.row (.slice y.1.2.1 ((adrs (l.take y.1.1)).length) y.1.2.2) 35 1 ((adrs (l.take y.1.1)).length) (uv (adrs (l.take y.1.1)))]) (fun y => l.length - y.1.1) (⟨(0, (none, 0)), Nat.zero_le _, Nat.le_refl _, Nat.zero_le _⟩) ⟨rfl, rfl, rfl, trivial⟩ (fun w1 hw => hw) ?_
  rintro ⟨⟨i, ⟨Ao, co⟩⟩, hi, hco, hcm⟩
  dsimp only at hi hco hcm ⊢
  refine TC.seq_ (TC.seq_ (TC.region ?_))
  refine TL.mv ?_
  refine TL.mv ?_
  refine TL.val rfl rfl rfl (gives_len rfl Try.underlying26 rfl) ?_
  refine TL.vsplit rfl rfl rfl (gives_bin rfl rfl rfl (fun w => bin_lss w)) (fun h15 => ?_) (fun h15 => ?_)
  ·have q15 := of_decide_eq_true h15
   have hi2 : i < l.length := by omega
   obtain ⟨x, hx⟩ : ∃ x, l[i]? = some x := ⟨_, List.getElem?_eq_getElem hi2⟩
   obtain ⟨b2, o2, hA2, hbb2, hc2⟩ := hr.ad (by omega) (by decide)
   have hxo := hok x (List.mem_of_getElem? hx)
   have htk : l.take (i + 1) = l.take i ++ [x] := by rw [List.take_add_one, hx]; rfl
   have hsn : adrs (l.take (i + 1)) = adrs (l.take i) ++ [x.a, x.b] := by rw [htk, adrs_snoc]
   refine TL.end_ (TX.then_ (TC.condT rfl (TC.skip_ (TX.then_ (TC.seq_ (TC.block ?_))))))
   refine TC.held (ls := #[Ff,Ff,Ff,Ff,Ff,Ff,Ff,Ff,Ff,Ff,Ff,Ff,Ff,Ff]) (Pm w []) (by kernel_rfl) rfl rfl (fun w hw => hw.drawn _) ?_
   refine TH.tk (listed' := #[Tt,Ff,Ff,Ff,Ff,Ff,Ff,Ff,Ff,Ff,Ff,Ff,Ff,Ff]) 0 rfl rfl rfl (gives_move rfl rfl) (fun w1 hw => hw.pick [] (by decide) rfl) ?_
   refine TH.tk (listed' := #[Tt,Tt,Ff,Ff,Ff,Ff,Ff,Ff,Ff,Ff,Ff,Ff,Ff,Ff]) 1 rfl rfl rfl (gives_move rfl rfl) (fun w1 hw => hw.pick [] (by decide) rfl) ?_
   refine TH.tk (listed' := #[Tt,Tt,Tt,Ff,Ff,Ff,Ff,Ff,Ff,Ff,Ff,Ff,Ff,Ff]) 2 rfl rfl rfl (gives_move rfl rfl) (fun w1 hw => hw.pick [] (by decide) rfl) ?_
   refine TH.tk (listed' := #[Tt,Tt,Tt,Tt,Ff,Ff,Ff,Ff,Ff,Ff,Ff,Ff,Ff,Ff]) 3 rfl rfl rfl (gives_at (v := .pointer (some ⟨b2, o2 + i * 3, none⟩)) rfl rfl rfl (fun w => at_el Try.underlying26 urgsz42 hA2 _ _ i hi2 rfl w)) (fun w1 hw => hw.pick [] (by decide) rfl) ?_
   refine TH.tk (listed' := #[Tt,Tt,Tt,Tt,Tt,Ff,Ff,Ff,Ff,Ff,Ff,Ff,Ff,Ff]) 4 rfl rfl rfl (gives_field (v := .pointer (some ⟨b2, o2 + i * 3 + 1, none⟩)) rfl rfl (fun w => urgfld42_1 _ _ w)) (fun w1 hw => hw.pick [] (by decide) rfl) ?_
   refine TH.tk (listed' := #[Tt,Tt,Tt,Tt,Tt,Tt,Ff,Ff,Ff,Ff,Ff,Ff,Ff,Ff]) 5 rfl rfl rfl (gives_load (v := .int .u32 x.a) rfl rfl urgag35 (fun w1 hw => (hw.bel.cell hbb2).trans (fcs_cell hx hc2 1 _ rfl))) (fun w1 hw => hw.pick [] (by decide) rfl) ?_
   refine TH.tk (listed' := #[Tt,Tt,Tt,Tt,Tt,Tt,Tt,Ff,Ff,Ff,Ff,Ff,Ff,Ff]) 6 rfl rfl rfl (gives_move rfl rfl) (fun w1 hw => hw.pick [] (by decide) rfl) ?_
   refine TH.tk (listed' := #[Tt,Tt,Tt,Tt,Tt,Tt,Tt,Tt,Ff,Ff,Ff,Ff,Ff,Ff]) 7 rfl rfl rfl (gives_move rfl rfl) (fun w1 hw => hw.pick [] (by decide) rfl) ?_
   refine TH.tk (listed' := #[Tt,Tt,Tt,Tt,Tt,Tt,Tt,Tt,Tt,Ff,Ff,Ff,Ff,Ff]) 8 rfl rfl rfl (gives_at (v := .pointer (some ⟨b2, o2 + i * 3, none⟩)) rfl rfl rfl (fun w => at_el Try.underlying26 urgsz42 hA2 _ _ i hi2 rfl w)) (fun w1 hw => hw.pick [] (by decide) rfl) ?_
   refine TH.tk (listed' := #[Tt,Tt,Tt,Tt,Tt,Tt,Tt,Tt,Tt,Tt,Ff,Ff,Ff,Ff]) 9 rfl rfl rfl (gives_field (v := .pointer (some ⟨b2, o2 + i * 3 + 2, none⟩)) rfl rfl (fun w => urgfld42_2 _ _ w)) (fun w1 hw => hw.pick [] (by decide) rfl) ?_
   refine TH.tk (listed' := #[Tt,Tt,Tt,Tt,Tt,Tt,Tt,Tt,Tt,Tt,Tt,Ff,Ff,Ff]) 10 rfl rfl rfl (gives_load (v := .int .u32 x.b) rfl rfl urgag35 (fun w1 hw => (hw.bel.cell hbb2).trans (fcs_cell hx hc2 2 _ rfl))) (fun w1 hw => hw.pick [] (by decide) rfl) ?_
   refine TH.only' (listed' := #[Tt,Tt,Tt,Tt,Tt,Tt,Tt,Tt,Tt,Tt,Tt,Tt,Ff,Ff]) 11 rfl (by kernel_rfl) rfl ?_
   refine TL.prowS (e := 35) (size := 1) (cs := uv [x.a, x.b]) rfl rfl rfl rfl rfl (fun w => urgbs31_2_20249 _ _ w) (by decide) rfl (fun g29 => ?_)
   refine TL.end_ ?_
   refine TX.held (fun w1 hw => hw.pick [] (by decide) rfl) ?_
   refine TH.only' (listed' := #[Tt,Tt,Tt,Tt,Tt,Tt,Tt,Tt,Tt,Tt,Tt,Tt,Tt,Ff]) 12 rfl (by kernel_rfl) rfl ?_
   refine TL.appendT (k := 1) rfl rfl rfl rfl Try.underlying31 urgel31 rfl rfl rfl (fun w1 hw => pm_reads hw (k := 0) rfl) (uv_one [x.a, x.b]) (by have := adrs_len (l.take i); have := List.length_take (l := l) (i := i); show _ * 4 ≤ _; omega) ((adrs (l.take (i + 1))).length) (by rw [hsn]; simp) (uv (adrs (l.take (i + 1)))) (by rw [hsn]; exact (uv_app _ _).symm) (fun A30 c30 hA301 hA302 => ?_)
   refine TL.end_ ?_
   refine TX.held (fun w1 hw => hw.pick [] (by decide) rfl) ?_
   refine TH.tk (listed' := #[Tt,Tt,Tt,Tt,Tt,Tt,Tt,Tt,Tt,Tt,Tt,Tt,Tt,Tt]) 13 rfl rfl rfl (gives_assign rfl rfl) (fun w1 hw => hw.pick [] (by decide) rfl) ?_
   refine TH.done (by kernel_rfl) ?_
   refine TX.in_normal (TX.then_ (TC.region ?_))
   refine TL.mv ?_
   refine TL.val rfl rfl rfl (gives_bin rfl rfl rfl (fun w => bin_add_ (r := ((i + 1 : Nat) : Int)) (by simp only [IntKind.wrap_i64]; omega) w)) ?_
   refine TL.as_ ?_
   refine TL.end_ ?_
   exact TX.round (⟨(i + 1, (A30, c30)), by dsimp only; omega, hA301, hA302⟩) (by show l.length - (i + 1) < l.length - i; omega) ⟨rfl, rfl, rfl, trivial⟩ (fun w1 hw => hw.pick [1] (by decide) rfl)
  ·have q15 := of_decide_eq_false h15
   refine TL.end_ (TX.then_ (TC.condF rfl (TC.exit_ (TX.then_exit (TX.then_exit (TX.in_same (TX.then_ (TC.seq_ (TC.region ?_)))))))))
   refine TL.mv ?_
   have hE : adrs (l.take i) = adrs l := by rw [List.take_of_length_le (by omega)]
   have hal := asc_len (adrs l)
   have hal2 := adrs_len l
   refine TL.pcallPm (α := {p : Option Addr × Nat // (asc (adrs l)).length ≤ p.2 ∧ p.2 ≤ maxLen}) (fun y => .slice y.1.1 (asc (adrs l)).length y.1.2) (fun y => [.row (.slice y.1.1 (asc (adrs l)).length y.1.2) 35 1 (asc (adrs l)).length (uv (asc (adrs l)))]) rfl rfl rfl rfl rfl Try.func44 urgnm44 urgbd44 (fun w1 hw => rsort_is Ao _ co (adrs (l.take i)) w1 (by obtain ⟨B9, h8⟩ := pm_reads hw (k := 0) rfl; exact reads_up h8 (pm_row_lt hw (k := 0) rfl)) rfl (by rw [hE]; omega) (by rw [hE])) ?_
   rintro ⟨⟨AS, cS⟩, hS1, hS2⟩
   dsimp only [List.cons_append, List.nil_append]
   refine TL.as_ ?_
   refine TL.end_ (TX.then_ (TC.seq_ (TC.region ?_)))
   refine TL.as_ ?_
   refine TL.end_ (TX.then_ (TC.seq_ (TC.seq_ (TC.region ?_))))
   refine TL.as_ ?_
   refine TL.end_ (TX.then_ (TC.block ?_))
   refine TC.nilrow 31 1 ?_
   refine TC.loop_ (α := {y : Nat × (Option Addr × Nat) × List (Sg Int) × Option Addr // y.1 ≤ (asc (adrs l)).length ∧ y.2.2.1.map (·.l) = clsP l y.1 ∧ y.2.2.1.length ≤ y.2.1.2 ∧ y.2.1.2 ≤ maxLen}) (fun y => [(0, .slice A0 l.length c0), (3, .slice y.1.2.2.2 ((asc (adrs l)).length) cS), (5, .slice y.1.2.1.1 y.1.2.2.1.length y.1.2.1.2), (6, .int .i64 ((y.1.1 : Nat) : Int))]) (fun y => Pm w ([.row (.slice y.1.2.1.1 y.1.2.2.1.length y.1.2.1.2) 31 1 y.1.2.2.1.length (y.1.2.2.1.map Sg.val), .row (.slice y.1.2.2.2 ((asc (adrs l)).length) cS) 35 1 ((asc (adrs l)).length) (uv (asc (adrs l)))] ++ segG 35 1 uv y.1.2.2.1)) (fun y => (asc (adrs l)).length - y.1.1) (⟨(0, (none, 0), [], AS), Nat.zero_le _, rfl, Nat.le_refl _, Nat.zero_le _⟩) ⟨rfl, rfl, rfl, rfl, trivial⟩ (fun w1 hw => hw.sel (.cons_cons _ (.cons_cons _ (.cons _ (List.Sublist.refl _))))) ?_
   rintro ⟨⟨i, ⟨AO, cO⟩, ss, AX⟩, hi, hss, hcO, hcO2⟩
   dsimp only at hi hss hcO hcO2 ⊢
   refine TC.seq_ (TC.seq_ (TC.region ?_))
   refine TL.mv ?_
   refine TL.mv ?_
   refine TL.val rfl rfl rfl (gives_len rfl Try.underlying31 rfl) ?_
   refine TL.vsplit rfl rfl rfl (gives_bin rfl rfl rfl (fun w => bin_lss w)) (fun h36 => ?_) (fun h36 => ?_)
   ·have q36 := of_decide_eq_true h36
    obtain ⟨v, hv⟩ : ∃ v, (asc (adrs l))[i]? = some v := ⟨_, List.getElem?_eq_getElem (by omega)⟩
    have hvm := List.mem_of_getElem? hv
    have hssl := clsP_few hss
    refine TL.fact (p := ∃ g, AX = some ⟨g, 0, none⟩) (fun w1 hw => rowA hw (k := 1) rfl (by omega)) ?_
    rintro ⟨gS, rfl⟩
    refine TL.end_ (TX.then_ (TC.condT rfl (TC.skip_ (TX.then_ (TC.seq_ (TC.block (TC.seq_ (TC.region ?_))))))))
    refine TL.as_ ?_
    refine TL.end_ (TX.then_ (TC.seq_ (TC.seq_ (TC.region ?_))))
    refine TL.as_ ?_
    refine TL.end_ (TX.then_ (TC.block ?_))
    refine TC.loop_ (α := {y : Nat × Bool // y.1 ≤ ss.length ∧ (y.2 = true ↔ ∃ s ∈ ss.take y.1, v ∈ s.l)}) (fun y => [(0, .slice A0 l.length c0), (3, .slice (some ⟨gS, 0, none⟩) ((asc (adrs l)).length) cS), (5, .slice AO ss.length cO), (6, .int .i64 ((i : Nat) : Int)), (7, .bool y.1.2), (8, .int .i64 ((y.1.1 : Nat) : Int))]) (fun y => Pm w ([.row (.slice AO ss.length cO) 31 1 ss.length (ss.map Sg.val), .row (.slice (some ⟨gS, 0, none⟩) ((asc (adrs l)).length) cS) 35 1 ((asc (adrs l)).length) (uv (asc (adrs l)))] ++ segG 35 1 uv ss)) (fun y => ss.length - y.1.1) (⟨(0, false), Nat.zero_le _, iff_of_false (by simp) (by simp)⟩) ⟨rfl, rfl, rfl, rfl, rfl, rfl, trivial⟩ (fun w1 hw => hw) ?_
    rintro ⟨⟨k, fl⟩, hk, hfl⟩
    dsimp only at hk hfl ⊢
    refine TC.seq_ (TC.seq_ (TC.region ?_))
    refine TL.mv ?_
    refine TL.mv ?_
    refine TL.val rfl rfl rfl (gives_len rfl Try.underlying28 rfl) ?_
    refine TL.vsplit rfl rfl rfl (gives_bin rfl rfl rfl (fun w => bin_lss w)) (fun h42 => ?_) (fun h42 => ?_)
    ·have q42 := of_decide_eq_true h42
     obtain ⟨s, hs⟩ : ∃ s, ss[k]? = some s := ⟨_, List.getElem?_eq_getElem (by omega)⟩
     have hsm := List.mem_of_getElem? hs
     have htk2 : ss.take (k + 1) = ss.take k ++ [s] := by rw [List.take_add_one, hs]; rfl
     refine TL.fact (p := ∃ g, AO = some ⟨g, 0, none⟩) (fun w1 hw => rowA hw (k := 0) rfl (by omega)) ?_
     rintro ⟨gO, rfl⟩
     refine TL.end_ (TX.then_ (TC.condT rfl (TC.skip_ (TX.then_ (TC.seq_ (TC.block ?_))))))
     cases fl with
     | true =>
      have hfl2 : true = true ↔ ∃ s ∈ ss.take (k + 1), v ∈ s.l := iff_of_true rfl (by obtain ⟨z, hz, hv2⟩ := hfl.1 rfl; exact ⟨z, by rw [htk2]; exact List.mem_append_left _ hz, hv2⟩)
      refine TC.held (ls := #[Ff,Ff,Ff,Ff,Ff,Ff,Ff,Ff,Ff,Ff,Ff,Ff,Ff]) (Pm w [.row (.slice (some ⟨gO, 0, none⟩) ss.length cO) 31 1 ss.length (ss.map Sg.val), .row (.slice (some ⟨gS, 0, none⟩) ((asc (adrs l)).length) cS) 35 1 ((asc (adrs l)).length) (uv (asc (adrs l)))]) (by kernel_rfl) rfl rfl (fun w hw => hw.drawn _) ?_
      refine TH.tk (listed' := #[Tt,Ff,Ff,Ff,Ff,Ff,Ff,Ff,Ff,Ff,Ff,Ff,Ff]) 0 rfl rfl rfl (gives_move rfl rfl) (fun w1 hw => hw.pick [0, 1] (by decide) rfl) ?_
      refine TH.tk (listed' := #[Tt,Tt,Ff,Ff,Ff,Ff,Ff,Ff,Ff,Ff,Ff,Ff,Ff]) 1 rfl rfl rfl (gives_move rfl rfl) (fun w1 hw => hw.pick [0, 1] (by decide) rfl) ?_
      refine TH.off (listed' := #[Tt,Tt,Tt,Ff,Ff,Ff,Ff,Ff,Ff,Ff,Ff,Ff,Ff]) 2 rfl (by kernel_rfl) (by kernel_rfl) (by kernel_rfl) rfl rfl rfl rfl rfl rfl rfl (fun w1 hw => hw.pick [0, 1] (by decide) rfl) ?_
      refine TH.off (listed' := #[Tt,Tt,Tt,Tt,Ff,Ff,Ff,Ff,Ff,Ff,Ff,Ff,Ff]) 3 rfl (by kernel_rfl) (by kernel_rfl) (by kernel_rfl) rfl rfl rfl rfl rfl rfl rfl (fun w1 hw => hw.pick [0, 1] (by decide) rfl) ?_
      refine TH.off (listed' := #[Tt,Tt,Tt,Tt,Tt,Ff,Ff,Ff,Ff,Ff,Ff,Ff,Ff]) 4 rfl (by kernel_rfl) (by kernel_rfl) (by kernel_rfl) rfl rfl rfl rfl rfl rfl rfl (fun w1 hw => hw.pick [0, 1] (by decide) rfl) ?_
      refine TH.off (listed' := #[Tt,Tt,Tt,Tt,Tt,Tt,Ff,Ff,Ff,Ff,Ff,Ff,Ff]) 5 rfl (by kernel_rfl) (by kernel_rfl) (by kernel_rfl) rfl rfl rfl rfl rfl rfl rfl (fun w1 hw => hw.pick [0, 1] (by decide) rfl) ?_
      refine TH.off (listed' := #[Tt,Tt,Tt,Tt,Tt,Tt,Tt,Ff,Ff,Ff,Ff,Ff,Ff]) 6 rfl (by kernel_rfl) (by kernel_rfl) (by kernel_rfl) rfl rfl rfl rfl rfl rfl rfl (fun w1 hw => hw.pick [0, 1] (by decide) rfl) ?_
      refine TH.off (listed' := #[Tt,Tt,Tt,Tt,Tt,Tt,Tt,Tt,Ff,Ff,Ff,Ff,Ff]) 7 rfl (by kernel_rfl) (by kernel_rfl) (by kernel_rfl) rfl rfl rfl rfl rfl rfl rfl (fun w1 hw => hw.pick [0, 1] (by decide) rfl) ?_
      refine TH.off (listed' := #[Tt,Tt,Tt,Tt,Tt,Tt,Tt,Tt,Tt,Ff,Ff,Ff,Ff]) 8 rfl (by kernel_rfl) (by kernel_rfl) (by kernel_rfl) rfl rfl rfl rfl rfl rfl rfl (fun w1 hw => hw.pick [0, 1] (by decide) rfl) ?_
      refine TH.off (listed' := #[Tt,Tt,Tt,Tt,Tt,Tt,Tt,Tt,Tt,Tt,Ff,Ff,Ff]) 9 rfl (by kernel_rfl) (by kernel_rfl) (by kernel_rfl) rfl rfl rfl rfl rfl rfl rfl (fun w1 hw => hw.pick [0, 1] (by decide) rfl) ?_
      refine TH.off (listed' := #[Tt,Tt,Tt,Tt,Tt,Tt,Tt,Tt,Tt,Tt,Tt,Ff,Ff]) 10 rfl (by kernel_rfl) (by kernel_rfl) (by kernel_rfl) rfl rfl rfl rfl rfl rfl rfl (fun w1 hw => hw.pick [0, 1] (by decide) rfl) ?_
      refine TH.tk (listed' := #[Tt,Tt,Tt,Tt,Tt,Tt,Tt,Tt,Tt,Tt,Tt,Tt,Ff]) 11 rfl rfl rfl (gives_pick rfl rfl rfl) (fun w1 hw => hw.pick [0, 1] (by decide) rfl) ?_
      refine TH.tk (listed' := #[Tt,Tt,Tt,Tt,Tt,Tt,Tt,Tt,Tt,Tt,Tt,Tt,Tt]) 12 rfl rfl rfl (gives_assign rfl rfl) (fun w1 hw => hw.pick [0, 1] (by decide) rfl) ?_
      refine TH.done (by kernel_rfl) ?_
      refine TX.in_normal (TX.then_ (TC.region ?_))
      refine TL.mv ?_
      refine TL.val rfl rfl rfl (gives_bin rfl rfl rfl (fun w => bin_add_ (r := ((k + 1 : Nat) : Int)) (by simp only [IntKind.wrap_i64]; omega) w)) ?_
      refine TL.as_ ?_
      refine TL.end_ ?_
      exact TX.round (⟨(k + 1, true), by dsimp only; omega, hfl2⟩) (by show ss.length - (k + 1) < ss.length - k; omega) ⟨rfl, rfl, rfl, rfl, rfl, rfl, trivial⟩ (fun w1 hw => hw)
     | false =>
      rcases Classical.em (v ∈ s.l) with p2 | p2
      ·have hfl2 : true = true ↔ ∃ s ∈ ss.take (k + 1), v ∈ s.l := by rw [htk2]; exact iff_of_true rfl ⟨s, List.mem_append_right _ List.mem_cons_self, p2⟩
       refine TC.held (ls := #[Ff,Ff,Ff,Ff,Ff,Ff,Ff,Ff,Ff,Ff,Ff,Ff,Ff]) (Pm w [.row (.slice (some ⟨gO, 0, none⟩) ss.length cO) 31 1 ss.length (ss.map Sg.val), .row (.slice (some ⟨gS, 0, none⟩) ((asc (adrs l)).length) cS) 35 1 ((asc (adrs l)).length) (uv (asc (adrs l)))]) (by kernel_rfl) rfl rfl (fun w hw => hw.drawn _) ?_
       refine TH.tk (listed' := #[Tt,Ff,Ff,Ff,Ff,Ff,Ff,Ff,Ff,Ff,Ff,Ff,Ff]) 0 rfl rfl rfl (gives_move rfl rfl) (fun w1 hw => hw.pick [0, 1] (by decide) rfl) ?_
       refine TH.tk (listed' := #[Tt,Tt,Ff,Ff,Ff,Ff,Ff,Ff,Ff,Ff,Ff,Ff,Ff]) 1 rfl rfl rfl (gives_move rfl rfl) (fun w1 hw => hw.pick [0, 1] (by decide) rfl) ?_
       refine TH.takeG (listed' := #[Tt,Tt,Tt,Ff,Ff,Ff,Ff,Ff,Ff,Ff,Ff,Ff,Ff]) 2 rfl (by kernel_rfl) (by kernel_rfl) (by kernel_rfl) rfl rfl rfl rfl rfl rfl (gives_move rfl rfl) (fun w1 hw => hw.pick [0, 1] (by decide) rfl) ?_
       refine TH.takeG (listed' := #[Tt,Tt,Tt,Tt,Ff,Ff,Ff,Ff,Ff,Ff,Ff,Ff,Ff]) 3 rfl (by kernel_rfl) (by kernel_rfl) (by kernel_rfl) rfl rfl rfl rfl rfl rfl (gives_move rfl rfl) (fun w1 hw => hw.pick [0, 1] (by decide) rfl) ?_
       refine TH.takeG (listed' := #[Tt,Tt,Tt,Tt,Tt,Ff,Ff,Ff,Ff,Ff,Ff,Ff,Ff]) 4 rfl (by kernel_rfl) (by kernel_rfl) (by kernel_rfl) rfl rfl rfl rfl rfl rfl (gives_at (v := .pointer (some ⟨gO, k, none⟩)) rfl rfl rfl (fun w => at_row Try.underlying28 urgsz31 gO _ _ k (by omega) rfl w)) (fun w1 hw => hw.pick [0, 1] (by decide) rfl) ?_
       refine TH.takeG (listed' := #[Tt,Tt,Tt,Tt,Tt,Tt,Ff,Ff,Ff,Ff,Ff,Ff,Ff]) 5 rfl (by kernel_rfl) (by kernel_rfl) (by kernel_rfl) rfl rfl rfl rfl rfl rfl (pm_loadRow (k := 0) (i := k) rfl rfl urgag31 rfl (by rw [List.getElem?_map, hs]; rfl)) (fun w1 hw => hw.pick [0, 1] (by decide) rfl) ?_
       refine TH.takeG (listed' := #[Tt,Tt,Tt,Tt,Tt,Tt,Tt,Ff,Ff,Ff,Ff,Ff,Ff]) 6 rfl (by kernel_rfl) (by kernel_rfl) (by kernel_rfl) rfl rfl rfl rfl rfl rfl (gives_move rfl rfl) (fun w1 hw => hw.pick [0, 1] (by decide) rfl) ?_
       refine TH.takeG (listed' := #[Tt,Tt,Tt,Tt,Tt,Tt,Tt,Tt,Ff,Ff,Ff,Ff,Ff]) 7 rfl (by kernel_rfl) (by kernel_rfl) (by kernel_rfl) rfl rfl rfl rfl rfl rfl (gives_move rfl rfl) (fun w1 hw => hw.pick [0, 1] (by decide) rfl) ?_
       refine TH.takeG (listed' := #[Tt,Tt,Tt,Tt,Tt,Tt,Tt,Tt,Tt,Ff,Ff,Ff,Ff]) 8 rfl (by kernel_rfl) (by kernel_rfl) (by kernel_rfl) rfl rfl rfl rfl rfl rfl (gives_at (v := .pointer (some ⟨gS, i, none⟩)) rfl rfl rfl (fun w => at_row Try.underlying31 urgsz35 gS _ _ i (by omega) rfl w)) (fun w1 hw => hw.pick [0, 1] (by decide) rfl) ?_
       refine TH.takeG (listed' := #[Tt,Tt,Tt,Tt,Tt,Tt,Tt,Tt,Tt,Tt,Ff,Ff,Ff]) 9 rfl (by kernel_rfl) (by kernel_rfl) (by kernel_rfl) rfl rfl rfl rfl rfl rfl (pm_loadRow (k := 1) (i := i) rfl rfl urgag35 rfl (by unfold uv; rw [List.getElem?_map, hv]; rfl)) (fun w1 hw => hw.pick [0, 1] (by decide) rfl) ?_
       refine TH.only' (listed' := #[Tt,Tt,Tt,Tt,Tt,Tt,Tt,Tt,Tt,Tt,Tt,Ff,Ff]) 10 rfl (by kernel_rfl) rfl ?_
       refine TL.gu ?_
       refine TL.pcall1 (r := .bool true) rfl rfl rfl rfl rfl Try.func45 urgnm45 urgbd45 (fun w1 hw => has_is s.A _ s.c s.l w1 (Reads.of_own (hw.own (s.pc 35 1 uv) (List.mem_append_right _ (List.mem_map.2 ⟨s, hsm, rfl⟩)))) rfl (clsP_len hss hsm (by omega)) v (decide_eq_true p2)) ?_
       refine TL.end_ ?_
       refine TX.held (fun w1 hw => hw.pick [0, 1] (by decide) rfl) ?_
       refine TH.tk (listed' := #[Tt,Tt,Tt,Tt,Tt,Tt,Tt,Tt,Tt,Tt,Tt,Tt,Ff]) 11 rfl rfl rfl (gives_pick rfl rfl rfl) (fun w1 hw => hw.pick [0, 1] (by decide) rfl) ?_
       refine TH.tk (listed' := #[Tt,Tt,Tt,Tt,Tt,Tt,Tt,Tt,Tt,Tt,Tt,Tt,Tt]) 12 rfl rfl rfl (gives_assign rfl rfl) (fun w1 hw => hw.pick [0, 1] (by decide) rfl) ?_
       refine TH.done (by kernel_rfl) ?_
       refine TX.in_normal (TX.then_ (TC.region ?_))
       refine TL.mv ?_
       refine TL.val rfl rfl rfl (gives_bin rfl rfl rfl (fun w => bin_add_ (r := ((k + 1 : Nat) : Int)) (by simp only [IntKind.wrap_i64]; omega) w)) ?_
       refine TL.as_ ?_
       refine TL.end_ ?_
       exact TX.round (⟨(k + 1, true), by dsimp only; omega, hfl2⟩) (by show ss.length - (k + 1) < ss.length - k; omega) ⟨rfl, rfl, rfl, rfl, rfl, rfl, trivial⟩ (fun w1 hw => hw)
      ·have hfl2 : false = true ↔ ∃ s ∈ ss.take (k + 1), v ∈ s.l := by rw [htk2]; refine iff_of_false (by simp) ?_; rintro ⟨z, hz, hv2⟩; rcases List.mem_append.1 hz with hz | hz; (have h8 := hfl.2 ⟨z, hz, hv2⟩; simp at h8); rw [List.mem_singleton.1 hz] at hv2; exact p2 hv2
       refine TC.held (ls := #[Ff,Ff,Ff,Ff,Ff,Ff,Ff,Ff,Ff,Ff,Ff,Ff,Ff]) (Pm w [.row (.slice (some ⟨gO, 0, none⟩) ss.length cO) 31 1 ss.length (ss.map Sg.val), .row (.slice (some ⟨gS, 0, none⟩) ((asc (adrs l)).length) cS) 35 1 ((asc (adrs l)).length) (uv (asc (adrs l)))]) (by kernel_rfl) rfl rfl (fun w hw => hw.drawn _) ?_
       refine TH.tk (listed' := #[Tt,Ff,Ff,Ff,Ff,Ff,Ff,Ff,Ff,Ff,Ff,Ff,Ff]) 0 rfl rfl rfl (gives_move rfl rfl) (fun w1 hw => hw.pick [0, 1] (by decide) rfl) ?_
       refine TH.tk (listed' := #[Tt,Tt,Ff,Ff,Ff,Ff,Ff,Ff,Ff,Ff,Ff,Ff,Ff]) 1 rfl rfl rfl (gives_move rfl rfl) (fun w1 hw => hw.pick [0, 1] (by decide) rfl) ?_
       refine TH.takeG (listed' := #[Tt,Tt,Tt,Ff,Ff,Ff,Ff,Ff,Ff,Ff,Ff,Ff,Ff]) 2 rfl (by kernel_rfl) (by kernel_rfl) (by kernel_rfl) rfl rfl rfl rfl rfl rfl (gives_move rfl rfl) (fun w1 hw => hw.pick [0, 1] (by decide) rfl) ?_
       refine TH.takeG (listed' := #[Tt,Tt,Tt,Tt,Ff,Ff,Ff,Ff,Ff,Ff,Ff,Ff,Ff]) 3 rfl (by kernel_rfl) (by kernel_rfl) (by kernel_rfl) rfl rfl rfl rfl rfl rfl (gives_move rfl rfl) (fun w1 hw => hw.pick [0, 1] (by decide) rfl) ?_
       refine TH.takeG (listed' := #[Tt,Tt,Tt,Tt,Tt,Ff,Ff,Ff,Ff,Ff,Ff,Ff,Ff]) 4 rfl (by kernel_rfl) (by kernel_rfl) (by kernel_rfl) rfl rfl rfl rfl rfl rfl (gives_at (v := .pointer (some ⟨gO, k, none⟩)) rfl rfl rfl (fun w => at_row Try.underlying28 urgsz31 gO _ _ k (by omega) rfl w)) (fun w1 hw => hw.pick [0, 1] (by decide) rfl) ?_
       refine TH.takeG (listed' := #[Tt,Tt,Tt,Tt,Tt,Tt,Ff,Ff,Ff,Ff,Ff,Ff,Ff]) 5 rfl (by kernel_rfl) (by kernel_rfl) (by kernel_rfl) rfl rfl rfl rfl rfl rfl (pm_loadRow (k := 0) (i := k) rfl rfl urgag31 rfl (by rw [List.getElem?_map, hs]; rfl)) (fun w1 hw => hw.pick [0, 1] (by decide) rfl) ?_
       refine TH.takeG (listed' := #[Tt,Tt,Tt,Tt,Tt,Tt,Tt,Ff,Ff,Ff,Ff,Ff,Ff]) 6 rfl (by kernel_rfl) (by kernel_rfl) (by kernel_rfl) rfl rfl rfl rfl rfl rfl (gives_move rfl rfl) (fun w1 hw => hw.pick [0, 1] (by decide) rfl) ?_
       refine TH.takeG (listed' := #[Tt,Tt,Tt,Tt,Tt,Tt,Tt,Tt,Ff,Ff,Ff,Ff,Ff]) 7 rfl (by kernel_rfl) (by kernel_rfl) (by kernel_rfl) rfl rfl rfl rfl rfl rfl (gives_move rfl rfl) (fun w1 hw => hw.pick [0, 1] (by decide) rfl) ?_
       refine TH.takeG (listed' := #[Tt,Tt,Tt,Tt,Tt,Tt,Tt,Tt,Tt,Ff,Ff,Ff,Ff]) 8 rfl (by kernel_rfl) (by kernel_rfl) (by kernel_rfl) rfl rfl rfl rfl rfl rfl (gives_at (v := .pointer (some ⟨gS, i, none⟩)) rfl rfl rfl (fun w => at_row Try.underlying31 urgsz35 gS _ _ i (by omega) rfl w)) (fun w1 hw => hw.pick [0, 1] (by decide) rfl) ?_
       refine TH.takeG (listed' := #[Tt,Tt,Tt,Tt,Tt,Tt,Tt,Tt,Tt,Tt,Ff,Ff,Ff]) 9 rfl (by kernel_rfl) (by kernel_rfl) (by kernel_rfl) rfl rfl rfl rfl rfl rfl (pm_loadRow (k := 1) (i := i) rfl rfl urgag35 rfl (by unfold uv; rw [List.getElem?_map, hv]; rfl)) (fun w1 hw => hw.pick [0, 1] (by decide) rfl) ?_
       refine TH.only' (listed' := #[Tt,Tt,Tt,Tt,Tt,Tt,Tt,Tt,Tt,Tt,Tt,Ff,Ff]) 10 rfl (by kernel_rfl) rfl ?_
       refine TL.gu ?_
       refine TL.pcall1 (r := .bool false) rfl rfl rfl rfl rfl Try.func45 urgnm45 urgbd45 (fun w1 hw => has_is s.A _ s.c s.l w1 (Reads.of_own (hw.own (s.pc 35 1 uv) (List.mem_append_right _ (List.mem_map.2 ⟨s, hsm, rfl⟩)))) rfl (clsP_len hss hsm (by omega)) v (decide_eq_false p2)) ?_
       refine TL.end_ ?_
       refine TX.held (fun w1 hw => hw.pick [0, 1] (by decide) rfl) ?_
       refine TH.tk (listed' := #[Tt,Tt,Tt,Tt,Tt,Tt,Tt,Tt,Tt,Tt,Tt,Tt,Ff]) 11 rfl rfl rfl (gives_pick rfl rfl rfl) (fun w1 hw => hw.pick [0, 1] (by decide) rfl) ?_
       refine TH.tk (listed' := #[Tt,Tt,Tt,Tt,Tt,Tt,Tt,Tt,Tt,Tt,Tt,Tt,Tt]) 12 rfl rfl rfl (gives_assign rfl rfl) (fun w1 hw => hw.pick [0, 1] (by decide) rfl) ?_
       refine TH.done (by kernel_rfl) ?_
       refine TX.in_normal (TX.then_ (TC.region ?_))
       refine TL.mv ?_
       refine TL.val rfl rfl rfl (gives_bin rfl rfl rfl (fun w => bin_add_ (r := ((k + 1 : Nat) : Int)) (by simp only [IntKind.wrap_i64]; omega) w)) ?_
       refine TL.as_ ?_
       refine TL.end_ ?_
       exact TX.round (⟨(k + 1, false), by dsimp only; omega, hfl2⟩) (by show ss.length - (k + 1) < ss.length - k; omega) ⟨rfl, rfl, rfl, rfl, rfl, rfl, trivial⟩ (fun w1 hw => hw)
    ·have q42 := of_decide_eq_false h42
     have hseen : fl = true ↔ repF l v ∈ ks (repF l) ((asc (adrs l)).take i) := by rw [List.take_of_length_le (by omega)] at hfl; rw [hfl]; exact clsP_seen hss hvm
     refine TL.end_ (TX.then_ (TC.condF rfl (TC.exit_ (TX.then_exit (TX.then_exit (TX.in_same (TX.then_ (TC.seq_ ?_))))))))
     cases fl with
     | true =>
      have hst : ss.map (·.l) = clsP l (i + 1) := clsP_old hss hv (hseen.1 rfl)
      refine TC.region ?_
      refine TL.mv ?_
      refine TL.val rfl rfl rfl (gives_boolnot rfl rfl) ?_
      refine TL.end_ (TX.then_ (TC.condF rfl (TC.skip_ (TX.in_normal (TX.then_ (TC.region ?_))))))
      refine TL.mv ?_
      refine TL.val rfl rfl rfl (gives_bin rfl rfl rfl (fun w => bin_add_ (r := ((i + 1 : Nat) : Int)) (by simp only [IntKind.wrap_i64]; omega) w)) ?_
      refine TL.as_ ?_
      refine TL.end_ ?_
      exact TX.round (⟨(i + 1, (AO, cO), ss, (some ⟨gS, 0, none⟩)), by dsimp only; omega, hst, hcO, hcO2⟩) (by show (asc (adrs l)).length - (i + 1) < (asc (adrs l)).length - i; omega) ⟨rfl, rfl, rfl, rfl, trivial⟩ (fun w1 hw => hw)
     | false =>
      refine TC.region ?_
      refine TL.mv ?_
      refine TL.val rfl rfl rfl (gives_boolnot rfl rfl) ?_
      refine TL.end_ (TX.then_ (TC.condT rfl (TC.region ?_)))
      iterate 4 (first | refine TL.mv ?_)
      refine TL.val rfl rfl rfl (gives_at (v := .pointer (some ⟨gS, i, none⟩)) rfl rfl rfl (fun w => at_row Try.underlying31 urgsz35 gS _ _ i (by omega) rfl w)) ?_
      refine TL.val rfl rfl rfl (pm_loadRow (k := 1) (i := i) rfl rfl urgag35 rfl (by unfold uv; rw [List.getElem?_map, hv]; rfl)) ?_
      refine TL.pcallPm (α := {p : Option Addr × Nat // (compF l v).length ≤ p.2 ∧ p.2 ≤ maxLen}) (fun y => .slice y.1.1 (compF l v).length y.1.2) (fun y => [.row (.slice y.1.1 (compF l v).length y.1.2) 35 1 (compF l v).length (uv (compF l v))]) rfl rfl rfl rfl rfl Try.func46 urgnm46 urgbd46 (fun w1 hw => rcls_any A0 _ c0 l w1 ((hr.below hw.bel).more hw.bel.size) rfl hl1 v) ?_
      rintro ⟨⟨AK, cK⟩, hK1, hK2⟩
      dsimp only [List.cons_append, List.nil_append]
      refine TL.prowS (e := 31) (size := 1) (cs := [(⟨AK, cK, compF l v⟩ : Sg Int).val]) rfl rfl rfl rfl rfl (fun w => urgbs28_1_58639 _ _ _ w) (by decide) rfl (fun g66 => ?_)
      refine TL.appendT (k := 2) rfl rfl rfl rfl Try.underlying28 urgel28 rfl rfl rfl (fun w1 hw => pm_reads hw (k := 0) rfl) (fun u hu => by cases List.mem_singleton.1 hu; rfl) (by show _ * 24 ≤ _; omega) ((ss ++ [(⟨AK, cK, compF l v⟩ : Sg Int)]).length) (by rw [List.length_append]; rfl) ((ss ++ [(⟨AK, cK, compF l v⟩ : Sg Int)]).map Sg.val) (by rw [List.map_append]; rfl) (fun A67 c67 hA671 hA672 => ?_)
      refine TL.as_ ?_
      refine TL.end_ (TX.in_normal (TX.then_ ?_))
      have hst : (ss ++ [(⟨AK, cK, compF l v⟩ : Sg Int)]).map (·.l) = clsP l (i + 1) := clsP_new hss hv hvm (fun hh => by have h8 := hseen.2 hh; simp at h8)
      refine TC.region ?_
      refine TL.mv ?_
      refine TL.val rfl rfl rfl (gives_bin rfl rfl rfl (fun w => bin_add_ (r := ((i + 1 : Nat) : Int)) (by simp only [IntKind.wrap_i64]; omega) w)) ?_
      refine TL.as_ ?_
      refine TL.end_ ?_
      exact TX.round (⟨(i + 1, (A67, c67), ss ++ [(⟨AK, cK, compF l v⟩ : Sg Int)], (some ⟨gS, 0, none⟩)), by dsimp only; omega, hst, hA671, hA672⟩) (by show (asc (adrs l)).length - (i + 1) < (asc (adrs l)).length - i; omega) ⟨rfl, rfl, rfl, rfl, trivial⟩ (fun w1 hw => Pm.segPush2 (s' := (⟨AK, cK, compF l v⟩ : Sg Int)) hw)
   ·have q36 := of_decide_eq_false h36
    refine TL.end_ (TX.then_ (TC.condF rfl (TC.exit_ (TX.then_exit (TX.then_exit (TX.in_same (TX.then_ (TC.seq_ (TC.region ?_)))))))))
    refine TL.mv ?_
    refine TL.as_ ?_
    refine TL.end_ (TX.then_ (TC.ret_ ?_))
    have hfin : ss.map (·.l) = clsV l := by rw [hss, clsP_fin (by omega)]; exact (if_pos hV).symm
    exact ret_tmp Try.results24 rfl (fun w1 hw => ⟨⟨((AO, cO), ss), hfin, hcO, hcO2⟩, rfl, hw.sel (.cons_cons _ (.cons _ (List.Sublist.refl _)))⟩)
 ·refine TC.region ?_
  refine TL.mv ?_
  refine TL.pcall1 (r := .bool false) rfl rfl rfl rfl rfl Try.func23 urgnm23 urgbd23 (fun w1 hw => rvalid_is A0 _ c0 l w1 ((hr.below hw.bel).more hw.bel.size) rfl (decide_eq_false hV)) ?_
  refine TL.val rfl rfl rfl (gives_boolnot rfl rfl) ?_
  refine TL.end_ (TX.then_ (TC.condT rfl (TC.seq_ (TC.region ?_))))
  refine TL.as_ ?_
  refine TL.end_ (TX.then_ (TC.ret_ (TX.then_ret ?_)))
  exact ret_tmp Try.results24 rfl (fun w1 hw => ⟨⟨((none, 0), []), by rw [show clsV l = [] from if_neg hV]; rfl, Nat.le_refl _, Nat.zero_le _⟩, rfl, hw.nilrow _ _⟩)
end Go.Proofs.Ytleckflmckbheaa
