/-
  Texts of the proof, joined: DcId, PtLR, PtOpen.
-/
import Derived.Test.YtnejdeklnmkhbaaGreatPathsResultsPk5
import Derived.Test.YtnejdeklnmkhbaaGreatPathsResultsPk2
import Derived.Test.YtnejdeklnmkhbaaGreatPathsResultsPk3
import Derived.Test.YtnejdeklnmkhbaaGreatPathsResultsPk1
import Derived.DataElems
set_option linter.unusedVariables false
set_option linter.unusedSimpArgs false
namespace Go.Proofs.YtnejdeklnmkhbaaGreat
open Go.RowKit
set_option maxRecDepth 20000
set_option maxHeartbeats 1000000 in
theorem id_fr (w0 : Base) (F : List Pc) (cb : Nat) (A0 : Option Addr) (c0 : Nat) (l : List Rs) (hR : ∀ w1, Pm w0 ([.abs cb (fun w => Cod w cb)] ++ F) w1 → Reads w1 w1.heap.size 17 A0 l.length (flat Rs.cells l)) (hl : l.length ≤ 10000) (w : World) (hw0 : Pm w0 ([.abs cb (fun w => Cod w cb)] ++ F) w) :
    Calls Tryz.prog 44 #[.pointer (some ⟨cb, 0, none⟩), .slice A0 l.length c0] w fun e w' => ∃ x : Idn, e = .returned (.agg x.cells.toArray) ∧ Pm w0 ([.abs cb (fun w => Cod w cb)] ++ F) w' := by
  have hA0 : 0 < l.length → A0 = some ⟨adB A0, adO A0, none⟩ := fun h => (hR w hw0).addr h (by decide)
  refine begin_ (vs := [.pointer (some ⟨cb, 0, none⟩), .slice A0 l.length c0]) (I := Pm w0 ([.abs cb (fun w => Cod w cb)] ++ F)) Tryz.func44 rfl rfl rfl ?_ hw0
  refine TC.seq_ ?_
  refine TC.region ?_
  refine TL.pnew rfl rfl rfl (exec_alloc (cs := [.int .i64 0, .int .i64 0, .int .i64 0]) rfl prszv67 rfl) (fun g4 => ?_)
  refine TL.end_ ?_
  refine TX.then_ ?_
  refine TC.seq_ ?_
  refine TC.seq_ ?_
  refine TC.region ?_
  refine TL.val rfl rfl rfl (gives_move rfl rfl) ?_
  refine TL.val rfl rfl rfl (gives_len rfl Tryz.underlying26 rfl) ?_
  refine TL.vsplit rfl rfl rfl (gives_bin rfl rfl rfl (fun w => bin_eql w)) (fun h7 => ?_) (fun h7 => ?_)
  · have q7 := of_decide_eq_true h7
    refine TL.val rfl rfl rfl (gives_move rfl rfl) ?_
    refine TL.off rfl rfl rfl rfl rfl rfl ?_
    refine TL.off rfl rfl rfl rfl rfl rfl ?_
    refine TL.val rfl rfl rfl (gives_pick rfl rfl rfl) ?_
    refine TL.end_ ?_
    refine TX.then_ ?_
    refine TC.condT rfl ?_
    refine TC.seq_ ?_
    refine TC.region ?_
    refine TL.val rfl rfl rfl (gives_move rfl rfl) ?_
    refine TL.pcallCod (k := 1) (α := {q9 : Nat // q9 ≤ 65535 ∧ (1 ≤ (2 : Int) → (q9 : Int) < 2)}) (fun q9 => .int .i64 ((q9.1 : Nat) : Int)) (fun q9 => []) rfl rfl rfl rfl rfl Tryz.func25 ddrnm25 ddrbd25 rfl (fun w1 hw hC1 => next_cod cb w1 2 hC1) ?_
    rintro ⟨a, ha1, ha2⟩
    dsimp only [List.cons_append, List.nil_append]
    refine TL.val rfl rfl rfl (gives_move rfl rfl) ?_
    refine TL.pcallCod (k := 1) (α := {q9 : Nat // q9 ≤ 65535 ∧ (1 ≤ (2 : Int) → (q9 : Int) < 2)}) (fun q9 => .int .i64 ((q9.1 : Nat) : Int)) (fun q9 => []) rfl rfl rfl rfl rfl Tryz.func25 ddrnm25 ddrbd25 rfl (fun w1 hw hC1 => next_cod cb w1 2 hC1) ?_
    rintro ⟨b, hb1, hb2⟩
    dsimp only [List.cons_append, List.nil_append]
    refine TL.val rfl rfl rfl (gives_move rfl rfl) ?_
    refine TL.pcallCod (k := 1) (α := {q9 : Nat // q9 ≤ 65535 ∧ (1 ≤ (5 : Int) → (q9 : Int) < 5)}) (fun q9 => .int .i64 ((q9.1 : Nat) : Int)) (fun q9 => []) rfl rfl rfl rfl rfl Tryz.func25 ddrnm25 ddrbd25 rfl (fun w1 hw hC1 => next_cod cb w1 5 hC1) ?_
    rintro ⟨d, hd1, hd2⟩
    dsimp only [List.cons_append, List.nil_append]
    refine TL.val rfl rfl rfl (gives_build (v := .agg #[.int .i64 ((a : Nat) : Int), .int .i64 ((b : Nat) : Int), .int .i64 ((d : Nat) : Int)]) rfl rfl (fun w => prsbld67_57325 _ _ _ w)) ?_
    refine TL.pstore (k := 0) (vs := [.int .i64 ((a : Nat) : Int), .int .i64 ((b : Nat) : Int), .int .i64 ((d : Nat) : Int)]) rfl rfl rfl rfl rfl rfl rfl prssz67 prsone_i64i64i64 (by show 3 ≤ 3; decide) rfl ?_
    refine TL.end_ ?_
    refine TX.then_ ?_
    refine TC.ret_ ?_
    refine TX.then_ret ?_
    exact pm_ret_cell (k := 0) Tryz.results44 rfl rfl Tryz.underlying67 rfl rfl (fun w1 hw => ⟨⟨((a : Nat) : Int), ((b : Nat) : Int), ((d : Nat) : Int)⟩, rfl, hw.sel (.cons _ (.cons_cons _ (List.Sublist.refl _)))⟩)
  · have q7 := of_decide_eq_false h7
    refine TL.val rfl rfl rfl (gives_move rfl rfl) ?_
    refine TL.on rfl rfl rfl ?_
    refine TL.val rfl rfl rfl (gives_move rfl rfl) ?_
    refine TL.on rfl rfl rfl ?_
    refine TL.pcallCod (k := 1) (α := Bool) (fun x => .bool x) (fun x => []) rfl rfl rfl rfl rfl Tryz.func13 dntnm13 dntbd13 rfl (fun w1 hw hC1 => dbool_cod cb w1 hC1 6 (by decide)) ?_
    rintro b0
    dsimp only [List.cons_append, List.nil_append]
    refine TL.val rfl rfl rfl (gives_pick rfl rfl rfl) ?_
    refine TL.end_ ?_
    refine TX.then_ ?_
    refine TC.split (t := b0) rfl (fun c11 => ?_) (fun c11 => ?_)
    · refine TC.seq_ ?_
      refine TC.region ?_
      refine TL.val rfl rfl rfl (gives_move rfl rfl) ?_
      refine TL.pcallCod (k := 1) (α := {q9 : Nat // q9 ≤ 65535 ∧ (1 ≤ (2 : Int) → (q9 : Int) < 2)}) (fun q9 => .int .i64 ((q9.1 : Nat) : Int)) (fun q9 => []) rfl rfl rfl rfl rfl Tryz.func25 ddrnm25 ddrbd25 rfl (fun w1 hw hC1 => next_cod cb w1 2 hC1) ?_
      rintro ⟨a, ha1, ha2⟩
      dsimp only [List.cons_append, List.nil_append]
      refine TL.val rfl rfl rfl (gives_move rfl rfl) ?_
      refine TL.pcallCod (k := 1) (α := {q9 : Nat // q9 ≤ 65535 ∧ (1 ≤ (2 : Int) → (q9 : Int) < 2)}) (fun q9 => .int .i64 ((q9.1 : Nat) : Int)) (fun q9 => []) rfl rfl rfl rfl rfl Tryz.func25 ddrnm25 ddrbd25 rfl (fun w1 hw hC1 => next_cod cb w1 2 hC1) ?_
      rintro ⟨b, hb1, hb2⟩
      dsimp only [List.cons_append, List.nil_append]
      refine TL.val rfl rfl rfl (gives_move rfl rfl) ?_
      refine TL.pcallCod (k := 1) (α := {q9 : Nat // q9 ≤ 65535 ∧ (1 ≤ (5 : Int) → (q9 : Int) < 5)}) (fun q9 => .int .i64 ((q9.1 : Nat) : Int)) (fun q9 => []) rfl rfl rfl rfl rfl Tryz.func25 ddrnm25 ddrbd25 rfl (fun w1 hw hC1 => next_cod cb w1 5 hC1) ?_
      rintro ⟨d, hd1, hd2⟩
      dsimp only [List.cons_append, List.nil_append]
      refine TL.val rfl rfl rfl (gives_build (v := .agg #[.int .i64 ((a : Nat) : Int), .int .i64 ((b : Nat) : Int), .int .i64 ((d : Nat) : Int)]) rfl rfl (fun w => prsbld67_57325 _ _ _ w)) ?_
      refine TL.pstore (k := 0) (vs := [.int .i64 ((a : Nat) : Int), .int .i64 ((b : Nat) : Int), .int .i64 ((d : Nat) : Int)]) rfl rfl rfl rfl rfl rfl rfl prssz67 prsone_i64i64i64 (by show 3 ≤ 3; decide) rfl ?_
      refine TL.end_ ?_
      refine TX.then_ ?_
      refine TC.ret_ ?_
      refine TX.then_ret ?_
      exact pm_ret_cell (k := 0) Tryz.results44 rfl rfl Tryz.underlying67 rfl rfl (fun w1 hw => ⟨⟨((a : Nat) : Int), ((b : Nat) : Int), ((d : Nat) : Int)⟩, rfl, hw.sel (.cons _ (.cons_cons _ (List.Sublist.refl _)))⟩)
    · refine TC.skip_ ?_
      refine TX.then_ ?_
      refine TC.seq_ ?_
      refine TC.region ?_
      refine TL.val rfl rfl rfl (gives_move rfl rfl) ?_
      refine TL.val rfl rfl rfl (gives_move rfl rfl) ?_
      refine TL.val rfl rfl rfl (gives_move rfl rfl) ?_
      refine TL.val rfl rfl rfl (gives_len rfl Tryz.underlying26 rfl) ?_
      refine TL.pcallCod (k := 1) (α := {q9 : Nat // q9 ≤ 65535 ∧ (1 ≤ ((l.length : Nat) : Int) → (q9 : Int) < (l.length : Nat))}) (fun q9 => .int .i64 ((q9.1 : Nat) : Int)) (fun q9 => []) rfl rfl rfl rfl rfl Tryz.func25 ddrnm25 ddrbd25 rfl (fun w1 hw hC1 => next_cod cb w1 (l.length : Nat) hC1) ?_
      rintro ⟨i, hi1, hi2⟩
      dsimp only [List.cons_append, List.nil_append]
      have hi24 : i < l.length := by omega
      obtain ⟨x24, hx24⟩ : ∃ x24, l[i]? = some x24 := ⟨_, List.getElem?_eq_getElem hi24⟩
      have hA24 := hA0 (by omega)
      refine TL.val rfl rfl rfl (gives_at (v := .pointer (some ⟨(adB A0), (adO A0) + i * 17, none⟩)) rfl rfl rfl (fun w => at_el Tryz.underlying26 prssz47 hA24 _ _ i (by omega) rfl w)) ?_
      refine TL.val rfl rfl rfl (gives_loadR (off := (adO A0) + i * 17) rfl rfl prsag47 prssz47 (rs_cel.len x24) (fun w1 hw j9 u9 h9 => reads_cell rs_cel (hR w1 (hw.sel (.cons _ (.cons_cons _ (List.Sublist.refl _))))) hA24 hx24 j9 u9 h9)) ?_
      refine TL.pcall1 (r := .agg ((idnR x24).cells).toArray) rfl rfl rfl rfl rfl Tryz.func34 pofnm34 pofbd34 (fun w1 hw => ridn_any x24 w1) ?_
      refine TL.pstore (k := 0) (vs := (idnR x24).cells) rfl rfl rfl rfl rfl rfl rfl prssz67 (idn_cel.one _) (by show 3 ≤ 3; decide) (L' := ([.blk g4 67 (idnR x24).cells, .abs cb (fun w => Cod w cb)] ++ F)) rfl ?_
      refine TL.end_ ?_
      refine TX.then_ ?_
      refine TC.ret_ ?_
      exact pm_ret_cell (k := 0) Tryz.results44 rfl rfl Tryz.underlying67 rfl rfl (fun w1 hw => ⟨⟨(idnR x24).v, (idnR x24).run, (idnR x24).num⟩, rfl, hw.sel (.cons _ (.cons_cons _ (List.Sublist.refl _)))⟩)
set_option maxRecDepth 20000
theorem three {α : Type} {P : α → Prop} {a b c y : α} {i : Nat} (h : [a, b, c][i]? = some y) (ha : P a) (hb : P b) (hc : P c) : P y := by
 match i, h with
 | 0, h => cases h; exact ha
 | 1, h => cases h; exact hb
 | 2, h => cases h; exact hc
 | n + 3, h => cases h
theorem trc_len {l : List Rs} {o : List Trc} (h : IsTrc l o) : o.length ≤ l.length := by
 have := nodup_len (p := o) (F := l.map trcR) (h.1.imp fun {a b} hab e => by rw [e] at hab; exact absurd hab (ltK_irrefl b)) fun x hx => by
  obtain ⟨r, hr, _, e⟩ := (h.2 x).1 hx
  exact List.mem_map.2 ⟨r, hr, e⟩
 rwa [List.length_map] at this
/-! ### the first result with an identity -/
def FInv (u : Idn) (l : List Rs) (p : Rs × Bool) : Prop := (p = (Rs.zero, false) ∧ ∀ r ∈ l, vldRs r = true → idnR r ≠ u) ∨ (p.2 = true ∧ (p.1 ∈ l ∧ vldRs p.1 = true ∧ idnR p.1 = u) ∧ ∀ r ∈ l, vldRs r = true → idnR r = u → ¬ cmpRs r p.1 < 0)
theorem finv_all (u : Idn) : ∀ (h p : List Rs) (v : Rs × Bool), FInv u p v → FInv u (p ++ h) (h.foldl (stepF u) v)
 | [], p, v, hv => by rw [List.append_nil]; exact hv
 | r :: h, p, v, hv => by
  have hs : FInv u (p ++ [r]) (stepF u v r) := by
   have hm : ∀ {x : Rs}, x ∈ p ++ [r] ↔ x ∈ p ∨ x = r := by intro x; rw [List.mem_append, List.mem_singleton]
   unfold stepF
   by_cases hf : fitF u v r = true
   ·rw [if_pos hf]
    unfold fitF at hf
    simp only [Bool.and_eq_true, decide_eq_true_eq, Bool.or_eq_true, Bool.not_eq_true'] at hf
    obtain ⟨⟨h1, h2⟩, h3⟩ := hf
    refine .inr ⟨rfl, ⟨hm.2 (.inr rfl), h3, h1⟩, fun x hx hx1 hx2 hx3 => ?_⟩
    rcases hm.1 hx with h4 | h4
    ·rcases hv with ⟨rfl, k1⟩ | ⟨k1, ⟨k2, k3, k4⟩, k5⟩
     ·exact k1 x h4 hx1 hx2
     ·rcases h2 with h2 | h2
      ·rw [k1] at h2; cases h2
      ·exact k5 x h4 hx1 hx2 (ltK_trans (key := Rs.keys) keys_len hx3 h2)
    ·rw [h4] at hx3; exact ltK_irrefl (key := Rs.keys) r hx3
   ·rw [if_neg hf]
    unfold fitF at hf
    simp only [Bool.and_eq_true, decide_eq_true_eq, Bool.or_eq_true, Bool.not_eq_true'] at hf
    rcases hv with ⟨rfl, k1⟩ | ⟨k1, ⟨k2, k3, k4⟩, k5⟩
    ·refine .inl ⟨rfl, fun x hx hx1 hx2 => ?_⟩
     rcases hm.1 hx with h4 | h4
     ·exact k1 x h4 hx1 hx2
     ·rw [h4] at hx1 hx2; exact hf ⟨⟨hx2, .inl rfl⟩, hx1⟩
    ·refine .inr ⟨k1, ⟨hm.2 (.inl k2), k3, k4⟩, fun x hx hx1 hx2 hx3 => ?_⟩
     rcases hm.1 hx with h4 | h4
     ·exact k5 x h4 hx1 hx2 hx3
     ·rw [h4] at hx1 hx2 hx3; exact hf ⟨⟨hx2, .inr hx3⟩, hx1⟩
  have := finv_all u h (p ++ [r]) (stepF u v r) hs
  rwa [List.append_assoc] at this
theorem finv (l : List Rs) (u : Idn) : FInv u l (findS l u) := finv_all u l [] (Rs.zero, false) (.inl ⟨rfl, fun r hr => absurd hr List.not_mem_nil⟩)
theorem find_eq {l o : List Rs} {u : Idn} (h : IsOrd l o) : rfindS o u = findS l u := by
 unfold rfindS
 rcases hf : o.find? (fun r => decide (idnR r = u)) with _ | r
 ·rcases finv l u with ⟨e, _⟩ | ⟨_, ⟨h2, h3, h4⟩, _⟩
  ·exact e.symm
  ·have := List.find?_eq_none.1 hf _ ((h.2 _).2 ⟨h2, h3⟩)
   exact absurd (decide_eq_true h4) this
 ·have h1 := List.find?_some hf
  have h2 := of_decide_eq_true h1
  obtain ⟨ys, zs, ho, has⟩ := (List.find?_eq_some_iff_append.1 hf).2
  have hr : r ∈ o := by rw [ho]; exact List.mem_append_right _ List.mem_cons_self
  have hr2 := (h.2 r).1 hr
  rcases finv l u with ⟨_, k⟩ | ⟨k1, ⟨k2, k3, k4⟩, k5⟩
  ·exact absurd h2 (k r hr2.1 hr2.2)
  ·have hb : (findS l u).1 ∈ o := (h.2 _).2 ⟨k2, k3⟩
   have e : (findS l u).1 = r := by
    rw [ho] at hb
    rcases List.mem_append.1 hb with h5 | h5
    ·have h6 := has _ h5
     simp [k4] at h6
    ·rcases List.mem_cons.1 h5 with h5 | h5
     ·exact h5
     ·have h6 := h.1
      rw [ho] at h6
      have h7 := (List.pairwise_cons.1 (List.pairwise_append.1 h6).2.1).1 _ h5
      exact absurd h7 (k5 r hr2.1 hr2.2 h2)
   show (r, true) = findS l u
   rw [← e, ← k1]
theorem rvld_is {r : Rs} {b : Bool} (h : vldRs r = b) (w : World) : Calls Tryz.prog 27 #[.agg r.cells.toArray] w fun e w' => e = .returned (.bool b) ∧ Below w.heap.size w w' := by
 subst h
 exact rvldRs_any r w
theorem rusb_is {r : Rs} {b : Bool} (h : usbRs r = b) (w : World) : Calls Tryz.prog 29 #[.agg r.cells.toArray] w fun e w' => e = .returned (.bool b) ∧ Below w.heap.size w w' := by
 subst h
 exact rusbRs_any r w
theorem rfin_is {r : Rs} {b : Bool} (h : finRs r = b) (w : World) : Calls Tryz.prog 30 #[.agg r.cells.toArray] w fun e w' => e = .returned (.bool b) ∧ Below w.heap.size w w' := by
 subst h
 exact rfinRs_any r w
theorem plrnm10 : (Tryz.f10.name == "runtime.NumGoroutine") = false := by decide
theorem plrbd10 : Tryz.f10.body.isNone = false := rfl
theorem plrnm11 : (Tryz.f11.name == "runtime.NumGoroutine") = false := by decide
theorem plrbd11 : Tryz.f11.body.isNone = false := rfl
theorem plrnm23 : (Tryz.f23.name == "runtime.NumGoroutine") = false := by decide
theorem plrbd23 : Tryz.f23.body.isNone = false := rfl
theorem plrnm24 : (Tryz.f24.name == "runtime.NumGoroutine") = false := by decide
theorem plrbd24 : Tryz.f24.body.isNone = false := rfl
theorem plrnm15 : (Tryz.f15.name == "runtime.NumGoroutine") = false := by decide
theorem plrbd15 : Tryz.f15.body.isNone = false := rfl
theorem plrbs68_3_22048 (a0_0 : Option Addr) (a0_0n a0_0c : Nat) (a1_0 : Option Addr) (a1_0n a1_0c : Nat) (a2_0 : Option Addr) (a2_0n a2_0c : Nat) (w : World) : (Instr.buildSlice 68 3 #[(0, .slice a0_0 a0_0n a0_0c), (1, .slice a1_0 a1_0n a1_0c), (2, .slice a2_0 a2_0n a2_0c)]).run Tryz.prog w = .ok (.slice (some ⟨w.heap.size, 0, none⟩) 3 3) (w.alloc (.cells [.slice a0_0 a0_0n a0_0c, .slice a1_0 a1_0n a1_0c, .slice a2_0 a2_0n a2_0c].toArray 26)) := by kernel_rfl
theorem plrsz26 (w : World) : (sizeOf 26).run Tryz.prog w = .ok 1 w := rfl
theorem plrag26 (w : World) : (isAgg 26).run Tryz.prog w = .ok false w := rfl
theorem plrnm30 : (Tryz.f30.name == "runtime.NumGoroutine") = false := by decide
theorem plrbd30 : Tryz.f30.body.isNone = false := rfl
theorem plrnm38 : (Tryz.f38.name == "runtime.NumGoroutine") = false := by decide
theorem plrbd38 : Tryz.f38.body.isNone = false := rfl
theorem plrnm39 : (Tryz.f39.name == "runtime.NumGoroutine") = false := by decide
theorem plrbd39 : Tryz.f39.body.isNone = false := rfl
theorem plrnm42 : (Tryz.f42.name == "runtime.NumGoroutine") = false := by decide
theorem plrbd42 : Tryz.f42.body.isNone = false := rfl
theorem plrnm43 : (Tryz.f43.name == "runtime.NumGoroutine") = false := by decide
theorem plrbd43 : Tryz.f43.body.isNone = false := rfl
theorem plrnm44 : (Tryz.f44.name == "runtime.NumGoroutine") = false := by decide
theorem plrbd44 : Tryz.f44.body.isNone = false := rfl
theorem plrbs79_2_74873 (a0_0 : Int) (a0_1 : Int) (a0_2 : Int) (a1_0 : Int) (a1_1 : Int) (a1_2 : Int) (w : World) : (Instr.buildSlice 79 2 #[(0, .agg #[.int .i64 a0_0, .int .i64 a0_1, .int .i64 a0_2]), (1, .agg #[.int .i64 a1_0, .int .i64 a1_1, .int .i64 a1_2])]).run Tryz.prog w = .ok (.slice (some ⟨w.heap.size, 0, none⟩) 2 2) (w.alloc (.cells [.int .i64 a0_0, .int .i64 a0_1, .int .i64 a0_2, .int .i64 a1_0, .int .i64 a1_1, .int .i64 a1_2].toArray 67)) := by kernel_rfl
theorem plrnm45 : (Tryz.f45.name == "runtime.NumGoroutine") = false := by decide
theorem plrbd45 : Tryz.f45.body.isNone = false := rfl
theorem plrnm46 : (Tryz.f46.name == "runtime.NumGoroutine") = false := by decide
theorem plrbd46 : Tryz.f46.body.isNone = false := rfl
set_option maxHeartbeats 1000000 in
theorem pathsResults_walk (A0 : Option Addr) (n0 c0 : Nat) (l0 : List Int) (A1 : Option Addr) (c1 : Nat) (raw : List Rs) (u : Idn) (t : Trc) (w : World) (hb0 : Byt w w.heap.size A0 n0 l0) (hc0 : n0 ≤ c0) (hm0 : c0 ≤ maxLen) (hc1 : raw.length ≤ c1) (hm1 : c1 ≤ maxLen) (hr1 : Reads w w.heap.size 17 A1 raw.length (flat Rs.cells raw)) (ho1 : ∀ r ∈ raw, r.Ok) :
  Calls Tryz.prog 8 #[.slice A0 n0 c0, .slice A1 raw.length c1, .agg u.cells.toArray, .agg t.cells.toArray] w fun e w' => e = .returned (.bool true) ∧ Below w.heap.size w w' := by
 have hn0 : (n0 : Int) ≤ 9223372036854775807 := by unfold maxLen at hm0; omega
 refine begin_ (vs := [.slice A0 n0 c0, .slice A1 raw.length c1, .agg u.cells.toArray, .agg t.cells.toArray]) Tryz.func8 rfl rfl rfl ?_ (Pm.start w)
 refine TC.seq_ (TC.region ?_)
 refine TL.pnew rfl rfl rfl (exec_box (cs := u.cells) rfl rfl rfl) (fun g6 => ?_)
 refine TL.pnew rfl rfl rfl (exec_box (cs := t.cells) rfl rfl rfl) (fun g7 => ?_)
 refine TL.as_ ?_
 refine TL.end_ (TX.then_ (TC.seq_ (TC.seq_ (TC.region ?_))))
 refine TL.pcall1 (r := .bool true) rfl rfl rfl rfl rfl Tryz.func10 plrnm10 plrbd10 (fun w1 hw => awake_true w1) ?_
 iterate 5 (first | refine TL.gu ?_ | refine TL.mv ?_ | refine TL.val rfl rfl rfl (gives_boolnot rfl rfl) ?_)
 refine TL.val rfl rfl rfl (gives_len rfl Tryz.underlying26 rfl) ?_
 refine TL.gu ?_
 refine TL.vsplit rfl rfl rfl (gives_bin rfl rfl rfl (fun w => bin_gtr w)) (fun h30 => ?_) (fun h30 => ?_)
 ·have q30 := of_decide_eq_true h30
  refine TL.pk ?_
  refine TL.end_ (TX.then_ (TC.condT rfl (TC.seq_ (TC.region ?_))))
  refine TL.pcall1 (r := .bool true) rfl rfl rfl rfl rfl Tryz.func10 plrnm10 plrbd10 (fun w1 hw => awake_true w1) ?_
  refine TL.as_ ?_
  refine TL.end_ (TX.then_ (TC.ret_ (TX.then_ret ?_)))
  exact ret_tmp Tryz.results8 rfl (fun w1 hw => ⟨rfl, hw.bel⟩)
 ·have q30 := of_decide_eq_false h30
  refine TL.pk ?_
  refine TL.end_ (TX.then_ (TC.condF rfl (TC.skip_ (TX.then_ (TC.seq_ (TC.region ?_))))))
  refine TL.mv ?_
  refine TL.callNew (I := Pm w [.blk g7 32 t.cells, .blk g6 67 u.cells]) (p := fun cb w => Cod w cb) rfl rfl rfl rfl rfl Tryz.func11 plrnm11 plrbd11 (fun w1 hw => (roll_any A0 n0 c0 l0 w1 ((hb0.below hw.bel).more hw.bel.size) hc0 hn0).mono fun e w2 ⟨h1, h2, h3⟩ => ⟨h1, h2, cod_cells h2, h3⟩) cod_stab (fun wn hwn => ?_)
  have hwb := hwn.bel
  have hb6 : ∀ (j : Nat) (z : Value), u.cells[j]? = some z → wn.cell? ⟨g6, 0 + j, none⟩ = some z := fun j z h => by rw [Nat.zero_add]; exact (hwn.cell (k := 1) rfl j).trans h
  have hb7 : ∀ (j : Nat) (z : Value), t.cells[j]? = some z → wn.cell? ⟨g7, 0 + j, none⟩ = some z := fun j z h => by rw [Nat.zero_add]; exact (hwn.cell (k := 0) rfl j).trans h
  have hl6 : g6 < wn.heap.size := (Pc.lt (hwn.at_ (k := 1) rfl) g6 rfl).2
  have hl7 : g7 < wn.heap.size := (Pc.lt (hwn.at_ (k := 0) rfl) g7 rfl).2
  refine TL.as_ ?_
  refine TL.end_ (TX.then_ (TC.seq_ (TC.region ?_)))
  refine TL.mv ?_
  refine TL.pcallCod (k := 0) (α := {y : (Option Addr × Nat) × List Rs // DrawnOk 14 y.2 ∧ y.2.length ≤ y.1.2 ∧ y.1.2 ≤ maxLen}) (fun x => .slice x.1.1.1 x.1.2.length x.1.1.2) (fun x => [.row (.slice x.1.1.1 x.1.2.length x.1.1.2) 47 17 x.1.2.length (flat Rs.cells x.1.2)]) rfl rfl rfl rfl rfl Tryz.func23 plrnm23 plrbd23 rfl (fun w1 hw hC1 => results_cod wn.heap.size w1 hC1 14 false (by omega)) ?_
  rintro ⟨⟨⟨Axs, cxs⟩, xs⟩, hxs, hxsc, hxsm⟩
  dsimp only [List.cons_append, List.nil_append]
  dsimp only at hxs hxsc hxsm ⊢
  refine TL.as_ ?_
  refine TL.end_ (TX.then_ (TC.seq_ (TC.seq_ ?_)))
  have hxsok : ∀ r ∈ xs, r.Ok := fun r hr => (hxs.1 r hr).2.1
  have hxsl := hxs.2.2
  refine TC.region ?_
  iterate 5 (first | refine TL.mv ?_)
  refine TL.call (α := {y : (Option Addr × Nat) × List Rs // (∀ r ∈ y.2, r.Ok) ∧ y.2.length ≤ xs.length + 1 ∧ y.2.length ≤ y.1.2 ∧ y.1.2 ≤ maxLen}) (r := fun q9 => .slice q9.1.1.1 q9.1.2.length q9.1.1.2) (I' := fun q9 => Pm wn ([.row (.slice q9.1.1.1 q9.1.2.length q9.1.1.2) 47 17 q9.1.2.length (flat Rs.cells q9.1.2), .abs wn.heap.size (fun w => Cod w wn.heap.size), .row (.slice Axs xs.length cxs) 47 17 xs.length (flat Rs.cells xs)] ++ mpsP [])) rfl rfl rfl rfl rfl Tryz.func24 plrnm24 plrbd24 (fun w1 hw => odd_fr wn ([] ++ mpsP []) wn.heap.size Axs cxs xs w1 ((show Pm wn ([.abs wn.heap.size (fun w => Cod w wn.heap.size), .row (.slice Axs xs.length cxs) 47 17 xs.length (flat Rs.cells xs)] ++ mpsP []) w1 from hw.pickT 2 [1, 0] (by decide) (by decide) rfl rfl)) (by omega) hxsok) ?_
  rintro ⟨⟨⟨Aod, cod⟩, od⟩, hodok, hodl, hodc, hodm⟩
  dsimp only at hodok hodl hodc hodm ⊢
  have hshl : True := trivial
  refine TL.call (α := {y : (Option Addr × Nat) × List Rs // ShufOk od y.2 ∧ y.2.length ≤ y.1.2 ∧ y.1.2 ≤ maxLen}) (r := fun x => .slice x.1.1.1 x.1.2.length x.1.1.2) (I' := fun x => Pm wn ([.row (.slice x.1.1.1 x.1.2.length x.1.1.2) 47 17 x.1.2.length (flat Rs.cells x.1.2), .abs wn.heap.size (fun w => Cod w wn.heap.size), .row (.slice Aod od.length cod) 47 17 od.length (flat Rs.cells od), .row (.slice Axs xs.length cxs) 47 17 xs.length (flat Rs.cells xs)] ++ mpsP [])) rfl rfl rfl rfl rfl Tryz.func15 plrnm15 plrbd15 (fun w1 hw => shuf_fr wn ([.row (.slice Axs xs.length cxs) 47 17 xs.length (flat Rs.cells xs)] ++ mpsP []) wn.heap.size Aod od.length cod od w1 ((show Pm wn ([.abs wn.heap.size (fun w => Cod w wn.heap.size), .row (.slice Aod od.length cod) 47 17 od.length (flat Rs.cells od), .row (.slice Axs xs.length cxs) 47 17 xs.length (flat Rs.cells xs)] ++ mpsP []) w1 from hw.pickT 3 [1, 0, 2] (by decide) (by decide) rfl rfl)) rfl (by omega)) ?_
  rintro ⟨⟨⟨Ash, csh⟩, sh⟩, hsh, hshc, hshm⟩
  dsimp only at hsh hshc hshm ⊢
  have hshl2 := hsh.2
  refine TL.prowS (e := 26) (size := 1) (cs := flat sgc [(⟨Axs, cxs, xs⟩ : Sg Rs), ⟨A1, c1, raw⟩, ⟨Ash, csh, sh⟩]) rfl rfl rfl rfl rfl (fun w => plrbs68_3_22048 _ _ _ _ _ _ _ _ _ w) (by decide) rfl (fun g44 => ?_)
  refine TL.val rfl rfl rfl (gives_len rfl Tryz.underlying68 rfl) ?_
  refine TL.mv ?_
  refine TL.end_ (TX.then_ (TC.block ?_))
  refine TC.loop_ (α := {i : Nat // i ≤ 3}) (fun y => [(6, .pointer (some ⟨g6, 0, none⟩)), (7, .pointer (some ⟨g7, 0, none⟩)), (8, .bool false), (9, .pointer (some ⟨wn.heap.size, 0, none⟩)), (44, .slice (some ⟨g44, 0, none⟩) 3 3), (45, .int .i64 3), (46, .int .i64 ((y.1 : Nat) : Int))]) (fun y => Pm wn ([.row (.slice (some ⟨g44, 0, none⟩) 3 3) 26 1 3 (flat sgc [(⟨Axs, cxs, xs⟩ : Sg Rs), ⟨A1, c1, raw⟩, ⟨Ash, csh, sh⟩]), .row (.slice Ash sh.length csh) 47 17 sh.length (flat Rs.cells sh), .abs wn.heap.size (fun w => Cod w wn.heap.size), .row (.slice Axs xs.length cxs) 47 17 xs.length (flat Rs.cells xs)] ++ mpsP [])) (fun y => 3 - y.1) (⟨0, Nat.zero_le _⟩) ⟨rfl, rfl, rfl, rfl, rfl, rfl, rfl, trivial⟩ (fun w1 hw => hw.sel (.cons_cons _ (.cons_cons _ (.cons_cons _ (.cons _ (.cons_cons _ (List.Sublist.refl _))))))) ?_
  rintro ⟨i, hi⟩
  try dsimp only at hi ⊢
  refine TC.seq_ ?_
  have hshok : ∀ r ∈ sh, r.Ok := fun r hr => hodok r ((hsh.1 r).1 hr)
  refine TC.region ?_
  refine TL.vsplit rfl rfl rfl (gives_bin rfl rfl rfl (fun w => bin_lss w)) (fun h47 => ?_) (fun h47 => ?_)
  ·have q47 := of_decide_eq_true h47
   refine TL.end_ (TX.then_ (TC.seq_ (TC.condT rfl (TC.skip_ (TX.then_ (TC.seq_ (TC.block (TC.seq_ (TC.region ?_)))))))))
   have hi48 : i < ([(⟨Axs, cxs, xs⟩ : Sg Rs), ⟨A1, c1, raw⟩, ⟨Ash, csh, sh⟩]).length := by show i < 3; omega
   obtain ⟨x48, hx48⟩ : ∃ x48, ([(⟨Axs, cxs, xs⟩ : Sg Rs), ⟨A1, c1, raw⟩, ⟨Ash, csh, sh⟩])[i]? = some x48 := ⟨_, List.getElem?_eq_getElem hi48⟩
   have x48f : (∀ w1, Pm wn ([.row (.slice (some ⟨g44, 0, none⟩) 3 3) 26 1 3 (flat sgc [(⟨Axs, cxs, xs⟩ : Sg Rs), ⟨A1, c1, raw⟩, ⟨Ash, csh, sh⟩]), .row (.slice Ash sh.length csh) 47 17 sh.length (flat Rs.cells sh), .abs wn.heap.size (fun w => Cod w wn.heap.size), .row (.slice Axs xs.length cxs) 47 17 xs.length (flat Rs.cells xs)] ++ mpsP []) w1 → Reads w1 w1.heap.size 17 x48.A x48.l.length (flat Rs.cells x48.l)) ∧ (∀ r ∈ x48.l, r.Ok) ∧ x48.l.length ≤ 40 := three (P := fun z : Sg Rs => (∀ w1, Pm wn ([.row (.slice (some ⟨g44, 0, none⟩) 3 3) 26 1 3 (flat sgc [(⟨Axs, cxs, xs⟩ : Sg Rs), ⟨A1, c1, raw⟩, ⟨Ash, csh, sh⟩]), .row (.slice Ash sh.length csh) 47 17 sh.length (flat Rs.cells sh), .abs wn.heap.size (fun w => Cod w wn.heap.size), .row (.slice Axs xs.length cxs) 47 17 xs.length (flat Rs.cells xs)] ++ mpsP []) w1 → Reads w1 w1.heap.size 17 z.A z.l.length (flat Rs.cells z.l)) ∧ (∀ r ∈ z.l, r.Ok) ∧ z.l.length ≤ 40) hx48 ⟨fun w1 hw => pm_rd hw (k := 3) rfl, hxsok, by dsimp only; omega⟩ ⟨fun w1 hw => (hr1.up (hwb.trans (hw.bel.mono hwb.size))), ho1, by dsimp only; omega⟩ ⟨fun w1 hw => pm_rd hw (k := 1) rfl, hshok, by dsimp only; omega⟩
   have x48l := x48f.2.2
   refine TL.val rfl rfl rfl (gives_at (v := .pointer (some ⟨g44, 0 + i * 1, none⟩)) rfl rfl rfl (fun w => at_el Tryz.underlying68 plrsz26 rfl _ _ i (by omega) rfl w)) ?_
   refine TL.val rfl rfl rfl (gives_load (v := .slice x48.A x48.l.length x48.c) rfl rfl plrag26 (fun w1 hw => flat_row sgc_cel hw (q := 0) rfl hx48 0 _ rfl)) ?_
   refine TL.as_ ?_
   refine TL.end_ (TX.then_ (TC.seq_ (TC.seq_ ?_)))
   refine TC.fact (p := 0 < x48.l.length → x48.A = some ⟨adB x48.A, adO x48.A, none⟩) (fun w1 hw h9 => (x48f.1 w1 (hw)).addr h9 (by decide)) (fun hyA => ?_)
   refine TC.region ?_
   refine TL.as_ ?_
   refine TL.end_ (TX.then_ (TC.block ?_))
   refine TC.loop_ (α := {p : Nat // p ≤ x48.l.length}) (fun y => [(6, .pointer (some ⟨g6, 0, none⟩)), (7, .pointer (some ⟨g7, 0, none⟩)), (8, .bool false), (9, .pointer (some ⟨wn.heap.size, 0, none⟩)), (12, .slice x48.A x48.l.length x48.c), (44, .slice (some ⟨g44, 0, none⟩) 3 3), (45, .int .i64 3), (46, .int .i64 ((i : Nat) : Int)), (13, .int .i64 ((y.1 : Nat) : Int))]) (fun y => Pm wn ([.row (.slice (some ⟨g44, 0, none⟩) 3 3) 26 1 3 (flat sgc [(⟨Axs, cxs, xs⟩ : Sg Rs), ⟨A1, c1, raw⟩, ⟨Ash, csh, sh⟩]), .row (.slice Ash sh.length csh) 47 17 sh.length (flat Rs.cells sh), .abs wn.heap.size (fun w => Cod w wn.heap.size), .row (.slice Axs xs.length cxs) 47 17 xs.length (flat Rs.cells xs)] ++ mpsP [])) (fun y => x48.l.length - y.1) (⟨0, Nat.zero_le _⟩) ⟨rfl, rfl, rfl, rfl, rfl, rfl, rfl, rfl, rfl, trivial⟩ (fun w1 hw => hw) ?_
   rintro ⟨p, hp⟩
   try dsimp only at hp ⊢
   refine TC.seq_ (TC.seq_ (TC.region ?_))
   refine TL.mv ?_
   refine TL.mv ?_
   refine TL.val rfl rfl rfl (gives_len rfl Tryz.underlying26 rfl) ?_
   refine TL.vsplit rfl rfl rfl (gives_bin rfl rfl rfl (fun w => bin_lss w)) (fun h53 => ?_) (fun h53 => ?_)
   ·have q53 := of_decide_eq_true h53
    refine TL.end_ (TX.then_ (TC.condT rfl (TC.skip_ (TX.then_ (TC.seq_ (TC.block ?_))))))
    refine TC.join (α := {z : (Nat × Nat) × Rs × Rs // z.2.1 ∈ x48.l ∧ z.2.2 ∈ x48.l}) (fun z => [(8, .bool false), (9, .pointer (some ⟨wn.heap.size, 0, none⟩)), (12, .slice x48.A x48.l.length x48.c), (13, .int .i64 ((p : Nat) : Int)), (14, .pointer (some ⟨z.1.1.1, 0, none⟩)), (15, .pointer (some ⟨z.1.1.2, 0, none⟩)), (44, .slice (some ⟨g44, 0, none⟩) 3 3), (45, .int .i64 3), (46, .int .i64 ((i : Nat) : Int)), (6, .pointer (some ⟨g6, 0, none⟩)), (7, .pointer (some ⟨g7, 0, none⟩))]) (fun z => Pm wn ([.blk z.1.1.1 47 z.1.2.1.cells, .blk z.1.1.2 47 z.1.2.2.cells, .row (.slice (some ⟨g44, 0, none⟩) 3 3) 26 1 3 (flat sgc [(⟨Axs, cxs, xs⟩ : Sg Rs), ⟨A1, c1, raw⟩, ⟨Ash, csh, sh⟩]), .row (.slice Ash sh.length csh) 47 17 sh.length (flat Rs.cells sh), .abs wn.heap.size (fun w => Cod w wn.heap.size), .row (.slice Axs xs.length cxs) 47 17 xs.length (flat Rs.cells xs)] ++ mpsP [])) ?_ ?_
    ·refine TC.held (ls := #[Ff,Ff,Ff,Ff,Ff,Ff,Ff,Ff,Ff,Ff,Ff,Ff,Ff,Ff,Ff]) (Pm wn ([.row (.slice (some ⟨g44, 0, none⟩) 3 3) 26 1 3 (flat sgc [(⟨Axs, cxs, xs⟩ : Sg Rs), ⟨A1, c1, raw⟩, ⟨Ash, csh, sh⟩]), .row (.slice Ash sh.length csh) 47 17 sh.length (flat Rs.cells sh), .abs wn.heap.size (fun w => Cod w wn.heap.size), .row (.slice Axs xs.length cxs) 47 17 xs.length (flat Rs.cells xs)] ++ mpsP [])) (by kernel_rfl) rfl rfl (fun w hw => hw.drawn _) ?_
     refine TH.tk (listed' := #[Tt,Ff,Ff,Ff,Ff,Ff,Ff,Ff,Ff,Ff,Ff,Ff,Ff,Ff,Ff]) 0 rfl rfl rfl (gives_move rfl rfl) (fun w1 hw => hw) ?_
     refine TH.tk (listed' := #[Tt,Tt,Ff,Ff,Ff,Ff,Ff,Ff,Ff,Ff,Ff,Ff,Ff,Ff,Ff]) 1 rfl rfl rfl (gives_move rfl rfl) (fun w1 hw => hw) ?_
     have hi58 : p < x48.l.length := by omega
     obtain ⟨x58, hx58⟩ : ∃ x58, x48.l[p]? = some x58 := ⟨_, List.getElem?_eq_getElem hi58⟩
     have hA58 := hyA (by omega)
     refine TH.tk (listed' := #[Tt,Tt,Tt,Ff,Ff,Ff,Ff,Ff,Ff,Ff,Ff,Ff,Ff,Ff,Ff]) 2 rfl rfl rfl (gives_at (v := .pointer (some ⟨(adB x48.A), (adO x48.A) + p * 17, none⟩)) rfl rfl rfl (fun w => at_el Tryz.underlying26 prssz47 hA58 _ _ p (by omega) rfl w)) (fun w1 hw => hw) ?_
     refine TH.tk (listed' := #[Tt,Tt,Tt,Tt,Ff,Ff,Ff,Ff,Ff,Ff,Ff,Ff,Ff,Ff,Ff]) 3 rfl rfl rfl (gives_loadR (off := (adO x48.A) + p * 17) rfl rfl prsag47 prssz47 (rs_cel.len x58) (fun w1 hw j9 u9 h9 => reads_cell rs_cel (x48f.1 w1 (hw)) hA58 hx58 j9 u9 h9)) (fun w1 hw => hw) ?_
     refine TH.tk (listed' := #[Tt,Tt,Tt,Tt,Tt,Ff,Ff,Ff,Ff,Ff,Ff,Ff,Ff,Ff,Ff]) 4 rfl rfl rfl (gives_move rfl rfl) (fun w1 hw => hw) ?_
     refine TH.tk (listed' := #[Tt,Tt,Tt,Tt,Tt,Tt,Ff,Ff,Ff,Ff,Ff,Ff,Ff,Ff,Ff]) 5 rfl rfl rfl (gives_move rfl rfl) (fun w1 hw => hw) ?_
     refine TH.tk (listed' := #[Tt,Tt,Tt,Tt,Tt,Tt,Tt,Ff,Ff,Ff,Ff,Ff,Ff,Ff,Ff]) 6 rfl rfl rfl (gives_move rfl rfl) (fun w1 hw => hw) ?_
     refine TH.tk (listed' := #[Tt,Tt,Tt,Tt,Tt,Tt,Tt,Tt,Ff,Ff,Ff,Ff,Ff,Ff,Ff]) 7 rfl rfl rfl (gives_len rfl Tryz.underlying26 rfl) (fun w1 hw => hw) ?_
     refine TH.three (l1 := #[Tt,Tt,Tt,Tt,Tt,Tt,Tt,Tt,Tt,Ff,Ff,Ff,Ff,Ff,Ff]) (l2 := #[Tt,Tt,Tt,Tt,Tt,Tt,Tt,Tt,Ff,Ff,Ff,Tt,Ff,Ff,Ff]) (l3 := #[Tt,Tt,Tt,Tt,Tt,Tt,Tt,Tt,Ff,Ff,Ff,Ff,Tt,Ff,Ff]) 8 11 12 rfl rfl rfl (by kernel_rfl) rfl rfl rfl rfl rfl rfl ?_ ?_ ?_
     ·refine TL.pcallCod (k := 2) (α := {q9 : Nat // q9 ≤ 65535 ∧ (1 ≤ ((x48.l.length : Nat) : Int) → (q9 : Int) < (x48.l.length : Nat))}) (fun q9 => .int .i64 ((q9.1 : Nat) : Int)) (fun q9 => []) rfl rfl rfl rfl rfl Tryz.func25 ddrnm25 ddrbd25 rfl (fun w1 hw hC1 => next_cod wn.heap.size w1 (x48.l.length : Nat) hC1) ?_
      rintro ⟨j, hj1, hj2⟩
      dsimp only [List.cons_append, List.nil_append]
      refine TL.end_ ?_
      refine TX.held (fun w1 hw => hw) ?_
      have hi65 : j < x48.l.length := by omega
      obtain ⟨x65, hx65⟩ : ∃ x65, x48.l[j]? = some x65 := ⟨_, List.getElem?_eq_getElem hi65⟩
      have hA65 := hyA (by omega)
      refine TH.tk (listed' := #[Tt,Tt,Tt,Tt,Tt,Tt,Tt,Tt,Tt,Tt,Ff,Ff,Ff,Ff,Ff]) 9 rfl rfl rfl (gives_at (v := .pointer (some ⟨(adB x48.A), (adO x48.A) + j * 17, none⟩)) rfl rfl rfl (fun w => at_el Tryz.underlying26 prssz47 hA65 _ _ j (by omega) rfl w)) (fun w1 hw => hw) ?_
      refine TH.tk (listed' := #[Tt,Tt,Tt,Tt,Tt,Tt,Tt,Tt,Tt,Tt,Tt,Ff,Ff,Ff,Ff]) 10 rfl rfl rfl (gives_loadR (off := (adO x48.A) + j * 17) rfl rfl prsag47 prssz47 (rs_cel.len x65) (fun w1 hw j9 u9 h9 => reads_cell rs_cel (x48f.1 w1 (hw)) hA65 hx65 j9 u9 h9)) (fun w1 hw => hw) ?_
      refine TH.two' (listed1 := #[Tt,Tt,Tt,Tt,Tt,Tt,Tt,Tt,Tt,Tt,Tt,Tt,Ff,Ff,Ff]) (listed2 := #[Tt,Tt,Tt,Tt,Tt,Tt,Tt,Tt,Tt,Tt,Tt,Ff,Tt,Ff,Ff]) 11 12 rfl rfl (by kernel_rfl) rfl rfl ?_ ?_
      ·refine TL.pnew rfl rfl rfl (exec_alloc (cs := [.int .i64 0, .int .i64 0, .int .i64 0, .int .i64 0, .int .u32 0, .int .i64 0, .int .i64 0, .int .i64 0, .bool false, .bool false, .int .i64 0, .int .u32 0, .int .i64 0, .int .i64 0, .int .i64 0, .int .i64 0, .int .i64 0]) rfl pcpzv47 rfl) (fun g14 => ?_)
       refine TL.end_ ?_
       refine TX.held (fun w1 hw => hw.sel (.cons _ (.cons_cons _ (.cons_cons _ (.cons_cons _ (.cons_cons _ (List.Sublist.refl _))))))) ?_
       refine TH.only' (listed' := #[Tt,Tt,Tt,Tt,Tt,Tt,Tt,Tt,Tt,Tt,Tt,Tt,Tt,Ff,Ff]) 12 rfl (by kernel_rfl) rfl ?_
       refine TL.pnew rfl rfl rfl (exec_alloc (cs := [.int .i64 0, .int .i64 0, .int .i64 0, .int .i64 0, .int .u32 0, .int .i64 0, .int .i64 0, .int .i64 0, .bool false, .bool false, .int .i64 0, .int .u32 0, .int .i64 0, .int .i64 0, .int .i64 0, .int .i64 0, .int .i64 0]) rfl pcpzv47 rfl) (fun g15 => ?_)
       refine TL.end_ ?_
       refine TX.held (fun w1 hw => hw.sel (.cons _ (.cons _ (.cons_cons _ (.cons_cons _ (.cons_cons _ (.cons_cons _ (List.Sublist.refl _)))))))) ?_
       refine TH.only' (listed' := #[Tt,Tt,Tt,Tt,Tt,Tt,Tt,Tt,Tt,Tt,Tt,Tt,Tt,Tt,Ff]) 13 rfl (by kernel_rfl) rfl ?_
       refine TL.pstore (k := 1) (vs := x58.cells) rfl rfl rfl rfl rfl rfl rfl prssz47 (rs_cel.one _) (by show 17 ≤ 17; decide) (L' := ([.blk g15 47 [.int .i64 0, .int .i64 0, .int .i64 0, .int .i64 0, .int .u32 0, .int .i64 0, .int .i64 0, .int .i64 0, .bool false, .bool false, .int .i64 0, .int .u32 0, .int .i64 0, .int .i64 0, .int .i64 0, .int .i64 0, .int .i64 0], .blk g14 47 x58.cells, .row (.slice (some ⟨g44, 0, none⟩) 3 3) 26 1 3 (flat sgc [(⟨Axs, cxs, xs⟩ : Sg Rs), ⟨A1, c1, raw⟩, ⟨Ash, csh, sh⟩]), .row (.slice Ash sh.length csh) 47 17 sh.length (flat Rs.cells sh), .abs wn.heap.size (fun w => Cod w wn.heap.size), .row (.slice Axs xs.length cxs) 47 17 xs.length (flat Rs.cells xs)] ++ mpsP [])) rfl ?_
       refine TL.end_ ?_
       refine TX.held (fun w1 hw => hw.sel (.cons _ (.cons _ (.cons_cons _ (.cons_cons _ (.cons_cons _ (.cons_cons _ (List.Sublist.refl _)))))))) ?_
       refine TH.only' (listed' := #[Tt,Tt,Tt,Tt,Tt,Tt,Tt,Tt,Tt,Tt,Tt,Tt,Tt,Tt,Tt]) 14 rfl (by kernel_rfl) rfl ?_
       refine TL.pstore (k := 0) (vs := x65.cells) rfl rfl rfl rfl rfl rfl rfl prssz47 (rs_cel.one _) (by show 17 ≤ 17; decide) (L' := ([.blk g15 47 x65.cells, .blk g14 47 x58.cells, .row (.slice (some ⟨g44, 0, none⟩) 3 3) 26 1 3 (flat sgc [(⟨Axs, cxs, xs⟩ : Sg Rs), ⟨A1, c1, raw⟩, ⟨Ash, csh, sh⟩]), .row (.slice Ash sh.length csh) 47 17 sh.length (flat Rs.cells sh), .abs wn.heap.size (fun w => Cod w wn.heap.size), .row (.slice Axs xs.length cxs) 47 17 xs.length (flat Rs.cells xs)] ++ mpsP [])) rfl ?_
       refine TL.end_ ?_
       refine TX.held (fun w1 hw => hw.sel (.cons _ (.cons _ (.cons_cons _ (.cons_cons _ (.cons_cons _ (.cons_cons _ (List.Sublist.refl _)))))))) ?_
       refine TH.done (by kernel_rfl) ?_
       exact TX.joined (⟨((g14, g15), x58, x65), List.mem_of_getElem? hx58, List.mem_of_getElem? hx65⟩) (⟨rfl, rfl, rfl, rfl, rfl, rfl, rfl, rfl, rfl, rfl, rfl, trivial⟩) (fun w1 hw => (show Pm wn ([.blk g14 47 x58.cells, .blk g15 47 x65.cells, .row (.slice (some ⟨g44, 0, none⟩) 3 3) 26 1 3 (flat sgc [(⟨Axs, cxs, xs⟩ : Sg Rs), ⟨A1, c1, raw⟩, ⟨Ash, csh, sh⟩]), .row (.slice Ash sh.length csh) 47 17 sh.length (flat Rs.cells sh), .abs wn.heap.size (fun w => Cod w wn.heap.size), .row (.slice Axs xs.length cxs) 47 17 xs.length (flat Rs.cells xs)] ++ mpsP []) w1 from hw.pickT 6 [1, 0, 2, 3, 4, 5] (by decide) (by decide) rfl rfl))
      ·refine TL.pnew rfl rfl rfl (exec_alloc (cs := [.int .i64 0, .int .i64 0, .int .i64 0, .int .i64 0, .int .u32 0, .int .i64 0, .int .i64 0, .int .i64 0, .bool false, .bool false, .int .i64 0, .int .u32 0, .int .i64 0, .int .i64 0, .int .i64 0, .int .i64 0, .int .i64 0]) rfl pcpzv47 rfl) (fun g15 => ?_)
       refine TL.end_ ?_
       refine TX.held (fun w1 hw => hw.sel (.cons _ (.cons_cons _ (.cons_cons _ (.cons_cons _ (.cons_cons _ (List.Sublist.refl _))))))) ?_
       refine TH.only' (listed' := #[Tt,Tt,Tt,Tt,Tt,Tt,Tt,Tt,Tt,Tt,Tt,Tt,Tt,Ff,Ff]) 11 rfl (by kernel_rfl) rfl ?_
       refine TL.pnew rfl rfl rfl (exec_alloc (cs := [.int .i64 0, .int .i64 0, .int .i64 0, .int .i64 0, .int .u32 0, .int .i64 0, .int .i64 0, .int .i64 0, .bool false, .bool false, .int .i64 0, .int .u32 0, .int .i64 0, .int .i64 0, .int .i64 0, .int .i64 0, .int .i64 0]) rfl pcpzv47 rfl) (fun g14 => ?_)
       refine TL.end_ ?_
       refine TX.held (fun w1 hw => hw.sel (.cons _ (.cons _ (.cons_cons _ (.cons_cons _ (.cons_cons _ (.cons_cons _ (List.Sublist.refl _)))))))) ?_
       refine TH.only' (listed' := #[Tt,Tt,Tt,Tt,Tt,Tt,Tt,Tt,Tt,Tt,Tt,Tt,Tt,Tt,Ff]) 13 rfl (by kernel_rfl) rfl ?_
       refine TL.pstore (k := 0) (vs := x58.cells) rfl rfl rfl rfl rfl rfl rfl prssz47 (rs_cel.one _) (by show 17 ≤ 17; decide) (L' := ([.blk g14 47 x58.cells, .blk g15 47 [.int .i64 0, .int .i64 0, .int .i64 0, .int .i64 0, .int .u32 0, .int .i64 0, .int .i64 0, .int .i64 0, .bool false, .bool false, .int .i64 0, .int .u32 0, .int .i64 0, .int .i64 0, .int .i64 0, .int .i64 0, .int .i64 0], .row (.slice (some ⟨g44, 0, none⟩) 3 3) 26 1 3 (flat sgc [(⟨Axs, cxs, xs⟩ : Sg Rs), ⟨A1, c1, raw⟩, ⟨Ash, csh, sh⟩]), .row (.slice Ash sh.length csh) 47 17 sh.length (flat Rs.cells sh), .abs wn.heap.size (fun w => Cod w wn.heap.size), .row (.slice Axs xs.length cxs) 47 17 xs.length (flat Rs.cells xs)] ++ mpsP [])) rfl ?_
       refine TL.end_ ?_
       refine TX.held (fun w1 hw => hw.sel (.cons _ (.cons _ (.cons_cons _ (.cons_cons _ (.cons_cons _ (.cons_cons _ (List.Sublist.refl _)))))))) ?_
       refine TH.only' (listed' := #[Tt,Tt,Tt,Tt,Tt,Tt,Tt,Tt,Tt,Tt,Tt,Tt,Tt,Tt,Tt]) 14 rfl (by kernel_rfl) rfl ?_
       refine TL.pstore (k := 1) (vs := x65.cells) rfl rfl rfl rfl rfl rfl rfl prssz47 (rs_cel.one _) (by show 17 ≤ 17; decide) (L' := ([.blk g14 47 x58.cells, .blk g15 47 x65.cells, .row (.slice (some ⟨g44, 0, none⟩) 3 3) 26 1 3 (flat sgc [(⟨Axs, cxs, xs⟩ : Sg Rs), ⟨A1, c1, raw⟩, ⟨Ash, csh, sh⟩]), .row (.slice Ash sh.length csh) 47 17 sh.length (flat Rs.cells sh), .abs wn.heap.size (fun w => Cod w wn.heap.size), .row (.slice Axs xs.length cxs) 47 17 xs.length (flat Rs.cells xs)] ++ mpsP [])) rfl ?_
       refine TL.end_ ?_
       refine TX.held (fun w1 hw => hw.sel (.cons _ (.cons _ (.cons_cons _ (.cons_cons _ (.cons_cons _ (.cons_cons _ (List.Sublist.refl _)))))))) ?_
       refine TH.done (by kernel_rfl) ?_
       exact TX.joined (⟨((g14, g15), x58, x65), List.mem_of_getElem? hx58, List.mem_of_getElem? hx65⟩) (⟨rfl, rfl, rfl, rfl, rfl, rfl, rfl, rfl, rfl, rfl, rfl, trivial⟩) (fun w1 hw => hw)
     ·refine TL.pnew rfl rfl rfl (exec_alloc (cs := [.int .i64 0, .int .i64 0, .int .i64 0, .int .i64 0, .int .u32 0, .int .i64 0, .int .i64 0, .int .i64 0, .bool false, .bool false, .int .i64 0, .int .u32 0, .int .i64 0, .int .i64 0, .int .i64 0, .int .i64 0, .int .i64 0]) rfl pcpzv47 rfl) (fun g14 => ?_)
      refine TL.end_ ?_
      refine TX.held (fun w1 hw => hw.sel (.cons _ (.cons_cons _ (.cons_cons _ (.cons_cons _ (.cons_cons _ (List.Sublist.refl _))))))) ?_
      refine TH.two' (listed1 := #[Tt,Tt,Tt,Tt,Tt,Tt,Tt,Tt,Tt,Ff,Ff,Tt,Ff,Ff,Ff]) (listed2 := #[Tt,Tt,Tt,Tt,Tt,Tt,Tt,Tt,Ff,Ff,Ff,Tt,Tt,Ff,Ff]) 8 12 rfl rfl (by kernel_rfl) rfl rfl ?_ ?_
      ·refine TL.pcallCod (k := 3) (α := {q9 : Nat // q9 ≤ 65535 ∧ (1 ≤ ((x48.l.length : Nat) : Int) → (q9 : Int) < (x48.l.length : Nat))}) (fun q9 => .int .i64 ((q9.1 : Nat) : Int)) (fun q9 => []) rfl rfl rfl rfl rfl Tryz.func25 ddrnm25 ddrbd25 rfl (fun w1 hw hC1 => next_cod wn.heap.size w1 (x48.l.length : Nat) hC1) ?_
       rintro ⟨j, hj1, hj2⟩
       dsimp only [List.cons_append, List.nil_append]
       refine TL.end_ ?_
       refine TX.held (fun w1 hw => hw.sel (.cons _ (.cons_cons _ (.cons_cons _ (.cons_cons _ (.cons_cons _ (List.Sublist.refl _))))))) ?_
       have hi65 : j < x48.l.length := by omega
       obtain ⟨x65, hx65⟩ : ∃ x65, x48.l[j]? = some x65 := ⟨_, List.getElem?_eq_getElem hi65⟩
       have hA65 := hyA (by omega)
       refine TH.tk (listed' := #[Tt,Tt,Tt,Tt,Tt,Tt,Tt,Tt,Tt,Tt,Ff,Tt,Ff,Ff,Ff]) 9 rfl rfl rfl (gives_at (v := .pointer (some ⟨(adB x48.A), (adO x48.A) + j * 17, none⟩)) rfl rfl rfl (fun w => at_el Tryz.underlying26 prssz47 hA65 _ _ j (by omega) rfl w)) (fun w1 hw => hw.sel (.cons _ (.cons_cons _ (.cons_cons _ (.cons_cons _ (.cons_cons _ (List.Sublist.refl _))))))) ?_
       refine TH.tk (listed' := #[Tt,Tt,Tt,Tt,Tt,Tt,Tt,Tt,Tt,Tt,Tt,Tt,Ff,Ff,Ff]) 10 rfl rfl rfl (gives_loadR (off := (adO x48.A) + j * 17) rfl rfl prsag47 prssz47 (rs_cel.len x65) (fun w1 hw j9 u9 h9 => reads_cell rs_cel (x48f.1 w1 (hw)) hA65 hx65 j9 u9 h9)) (fun w1 hw => hw.sel (.cons _ (.cons_cons _ (.cons_cons _ (.cons_cons _ (.cons_cons _ (List.Sublist.refl _))))))) ?_
       refine TH.only' (listed' := #[Tt,Tt,Tt,Tt,Tt,Tt,Tt,Tt,Tt,Tt,Tt,Tt,Tt,Ff,Ff]) 12 rfl (by kernel_rfl) rfl ?_
       refine TL.pnew rfl rfl rfl (exec_alloc (cs := [.int .i64 0, .int .i64 0, .int .i64 0, .int .i64 0, .int .u32 0, .int .i64 0, .int .i64 0, .int .i64 0, .bool false, .bool false, .int .i64 0, .int .u32 0, .int .i64 0, .int .i64 0, .int .i64 0, .int .i64 0, .int .i64 0]) rfl pcpzv47 rfl) (fun g15 => ?_)
       refine TL.end_ ?_
       refine TX.held (fun w1 hw => hw.sel (.cons _ (.cons _ (.cons_cons _ (.cons_cons _ (.cons_cons _ (.cons_cons _ (List.Sublist.refl _)))))))) ?_
       refine TH.only' (listed' := #[Tt,Tt,Tt,Tt,Tt,Tt,Tt,Tt,Tt,Tt,Tt,Tt,Tt,Tt,Ff]) 13 rfl (by kernel_rfl) rfl ?_
       refine TL.pstore (k := 1) (vs := x58.cells) rfl rfl rfl rfl rfl rfl rfl prssz47 (rs_cel.one _) (by show 17 ≤ 17; decide) (L' := ([.blk g15 47 [.int .i64 0, .int .i64 0, .int .i64 0, .int .i64 0, .int .u32 0, .int .i64 0, .int .i64 0, .int .i64 0, .bool false, .bool false, .int .i64 0, .int .u32 0, .int .i64 0, .int .i64 0, .int .i64 0, .int .i64 0, .int .i64 0], .blk g14 47 x58.cells, .row (.slice (some ⟨g44, 0, none⟩) 3 3) 26 1 3 (flat sgc [(⟨Axs, cxs, xs⟩ : Sg Rs), ⟨A1, c1, raw⟩, ⟨Ash, csh, sh⟩]), .row (.slice Ash sh.length csh) 47 17 sh.length (flat Rs.cells sh), .abs wn.heap.size (fun w => Cod w wn.heap.size), .row (.slice Axs xs.length cxs) 47 17 xs.length (flat Rs.cells xs)] ++ mpsP [])) rfl ?_
       refine TL.end_ ?_
       refine TX.held (fun w1 hw => hw.sel (.cons _ (.cons _ (.cons_cons _ (.cons_cons _ (.cons_cons _ (.cons_cons _ (List.Sublist.refl _)))))))) ?_
       refine TH.only' (listed' := #[Tt,Tt,Tt,Tt,Tt,Tt,Tt,Tt,Tt,Tt,Tt,Tt,Tt,Tt,Tt]) 14 rfl (by kernel_rfl) rfl ?_
       refine TL.pstore (k := 0) (vs := x65.cells) rfl rfl rfl rfl rfl rfl rfl prssz47 (rs_cel.one _) (by show 17 ≤ 17; decide) (L' := ([.blk g15 47 x65.cells, .blk g14 47 x58.cells, .row (.slice (some ⟨g44, 0, none⟩) 3 3) 26 1 3 (flat sgc [(⟨Axs, cxs, xs⟩ : Sg Rs), ⟨A1, c1, raw⟩, ⟨Ash, csh, sh⟩]), .row (.slice Ash sh.length csh) 47 17 sh.length (flat Rs.cells sh), .abs wn.heap.size (fun w => Cod w wn.heap.size), .row (.slice Axs xs.length cxs) 47 17 xs.length (flat Rs.cells xs)] ++ mpsP [])) rfl ?_
       refine TL.end_ ?_
       refine TX.held (fun w1 hw => hw.sel (.cons _ (.cons _ (.cons_cons _ (.cons_cons _ (.cons_cons _ (.cons_cons _ (List.Sublist.refl _)))))))) ?_
       refine TH.done (by kernel_rfl) ?_
       exact TX.joined (⟨((g14, g15), x58, x65), List.mem_of_getElem? hx58, List.mem_of_getElem? hx65⟩) (⟨rfl, rfl, rfl, rfl, rfl, rfl, rfl, rfl, rfl, rfl, rfl, trivial⟩) (fun w1 hw => (show Pm wn ([.blk g14 47 x58.cells, .blk g15 47 x65.cells, .row (.slice (some ⟨g44, 0, none⟩) 3 3) 26 1 3 (flat sgc [(⟨Axs, cxs, xs⟩ : Sg Rs), ⟨A1, c1, raw⟩, ⟨Ash, csh, sh⟩]), .row (.slice Ash sh.length csh) 47 17 sh.length (flat Rs.cells sh), .abs wn.heap.size (fun w => Cod w wn.heap.size), .row (.slice Axs xs.length cxs) 47 17 xs.length (flat Rs.cells xs)] ++ mpsP []) w1 from hw.pickT 6 [1, 0, 2, 3, 4, 5] (by decide) (by decide) rfl rfl))
      ·refine TL.pnew rfl rfl rfl (exec_alloc (cs := [.int .i64 0, .int .i64 0, .int .i64 0, .int .i64 0, .int .u32 0, .int .i64 0, .int .i64 0, .int .i64 0, .bool false, .bool false, .int .i64 0, .int .u32 0, .int .i64 0, .int .i64 0, .int .i64 0, .int .i64 0, .int .i64 0]) rfl pcpzv47 rfl) (fun g15 => ?_)
       refine TL.end_ ?_
       refine TX.held (fun w1 hw => hw.sel (.cons _ (.cons _ (.cons_cons _ (.cons_cons _ (.cons_cons _ (.cons_cons _ (List.Sublist.refl _)))))))) ?_
       refine TH.only' (listed' := #[Tt,Tt,Tt,Tt,Tt,Tt,Tt,Tt,Tt,Ff,Ff,Tt,Tt,Ff,Ff]) 8 rfl (by kernel_rfl) rfl ?_
       refine TL.pcallCod (k := 4) (α := {q9 : Nat // q9 ≤ 65535 ∧ (1 ≤ ((x48.l.length : Nat) : Int) → (q9 : Int) < (x48.l.length : Nat))}) (fun q9 => .int .i64 ((q9.1 : Nat) : Int)) (fun q9 => []) rfl rfl rfl rfl rfl Tryz.func25 ddrnm25 ddrbd25 rfl (fun w1 hw hC1 => next_cod wn.heap.size w1 (x48.l.length : Nat) hC1) ?_
       rintro ⟨j, hj1, hj2⟩
       dsimp only [List.cons_append, List.nil_append]
       refine TL.end_ ?_
       refine TX.held (fun w1 hw => hw.sel (.cons _ (.cons _ (.cons_cons _ (.cons_cons _ (.cons_cons _ (.cons_cons _ (List.Sublist.refl _)))))))) ?_
       have hi65 : j < x48.l.length := by omega
       obtain ⟨x65, hx65⟩ : ∃ x65, x48.l[j]? = some x65 := ⟨_, List.getElem?_eq_getElem hi65⟩
       have hA65 := hyA (by omega)
       refine TH.tk (listed' := #[Tt,Tt,Tt,Tt,Tt,Tt,Tt,Tt,Tt,Tt,Ff,Tt,Tt,Ff,Ff]) 9 rfl rfl rfl (gives_at (v := .pointer (some ⟨(adB x48.A), (adO x48.A) + j * 17, none⟩)) rfl rfl rfl (fun w => at_el Tryz.underlying26 prssz47 hA65 _ _ j (by omega) rfl w)) (fun w1 hw => hw.sel (.cons _ (.cons _ (.cons_cons _ (.cons_cons _ (.cons_cons _ (.cons_cons _ (List.Sublist.refl _)))))))) ?_
       refine TH.tk (listed' := #[Tt,Tt,Tt,Tt,Tt,Tt,Tt,Tt,Tt,Tt,Tt,Tt,Tt,Ff,Ff]) 10 rfl rfl rfl (gives_loadR (off := (adO x48.A) + j * 17) rfl rfl prsag47 prssz47 (rs_cel.len x65) (fun w1 hw j9 u9 h9 => reads_cell rs_cel (x48f.1 w1 (hw)) hA65 hx65 j9 u9 h9)) (fun w1 hw => hw.sel (.cons _ (.cons _ (.cons_cons _ (.cons_cons _ (.cons_cons _ (.cons_cons _ (List.Sublist.refl _)))))))) ?_
       refine TH.only' (listed' := #[Tt,Tt,Tt,Tt,Tt,Tt,Tt,Tt,Tt,Tt,Tt,Tt,Tt,Tt,Ff]) 13 rfl (by kernel_rfl) rfl ?_
       refine TL.pstore (k := 1) (vs := x58.cells) rfl rfl rfl rfl rfl rfl rfl prssz47 (rs_cel.one _) (by show 17 ≤ 17; decide) (L' := ([.blk g15 47 [.int .i64 0, .int .i64 0, .int .i64 0, .int .i64 0, .int .u32 0, .int .i64 0, .int .i64 0, .int .i64 0, .bool false, .bool false, .int .i64 0, .int .u32 0, .int .i64 0, .int .i64 0, .int .i64 0, .int .i64 0, .int .i64 0], .blk g14 47 x58.cells, .row (.slice (some ⟨g44, 0, none⟩) 3 3) 26 1 3 (flat sgc [(⟨Axs, cxs, xs⟩ : Sg Rs), ⟨A1, c1, raw⟩, ⟨Ash, csh, sh⟩]), .row (.slice Ash sh.length csh) 47 17 sh.length (flat Rs.cells sh), .abs wn.heap.size (fun w => Cod w wn.heap.size), .row (.slice Axs xs.length cxs) 47 17 xs.length (flat Rs.cells xs)] ++ mpsP [])) rfl ?_
       refine TL.end_ ?_
       refine TX.held (fun w1 hw => hw.sel (.cons _ (.cons _ (.cons_cons _ (.cons_cons _ (.cons_cons _ (.cons_cons _ (List.Sublist.refl _)))))))) ?_
       refine TH.only' (listed' := #[Tt,Tt,Tt,Tt,Tt,Tt,Tt,Tt,Tt,Tt,Tt,Tt,Tt,Tt,Tt]) 14 rfl (by kernel_rfl) rfl ?_
       refine TL.pstore (k := 0) (vs := x65.cells) rfl rfl rfl rfl rfl rfl rfl prssz47 (rs_cel.one _) (by show 17 ≤ 17; decide) (L' := ([.blk g15 47 x65.cells, .blk g14 47 x58.cells, .row (.slice (some ⟨g44, 0, none⟩) 3 3) 26 1 3 (flat sgc [(⟨Axs, cxs, xs⟩ : Sg Rs), ⟨A1, c1, raw⟩, ⟨Ash, csh, sh⟩]), .row (.slice Ash sh.length csh) 47 17 sh.length (flat Rs.cells sh), .abs wn.heap.size (fun w => Cod w wn.heap.size), .row (.slice Axs xs.length cxs) 47 17 xs.length (flat Rs.cells xs)] ++ mpsP [])) rfl ?_
       refine TL.end_ ?_
       refine TX.held (fun w1 hw => hw.sel (.cons _ (.cons _ (.cons_cons _ (.cons_cons _ (.cons_cons _ (.cons_cons _ (List.Sublist.refl _)))))))) ?_
       refine TH.done (by kernel_rfl) ?_
       exact TX.joined (⟨((g14, g15), x58, x65), List.mem_of_getElem? hx58, List.mem_of_getElem? hx65⟩) (⟨rfl, rfl, rfl, rfl, rfl, rfl, rfl, rfl, rfl, rfl, rfl, trivial⟩) (fun w1 hw => (show Pm wn ([.blk g14 47 x58.cells, .blk g15 47 x65.cells, .row (.slice (some ⟨g44, 0, none⟩) 3 3) 26 1 3 (flat sgc [(⟨Axs, cxs, xs⟩ : Sg Rs), ⟨A1, c1, raw⟩, ⟨Ash, csh, sh⟩]), .row (.slice Ash sh.length csh) 47 17 sh.length (flat Rs.cells sh), .abs wn.heap.size (fun w => Cod w wn.heap.size), .row (.slice Axs xs.length cxs) 47 17 xs.length (flat Rs.cells xs)] ++ mpsP []) w1 from hw.pickT 6 [1, 0, 2, 3, 4, 5] (by decide) (by decide) rfl rfl))
     ·refine TL.pnew rfl rfl rfl (exec_alloc (cs := [.int .i64 0, .int .i64 0, .int .i64 0, .int .i64 0, .int .u32 0, .int .i64 0, .int .i64 0, .int .i64 0, .bool false, .bool false, .int .i64 0, .int .u32 0, .int .i64 0, .int .i64 0, .int .i64 0, .int .i64 0, .int .i64 0]) rfl pcpzv47 rfl) (fun g15 => ?_)
      refine TL.end_ ?_
      refine TX.held (fun w1 hw => hw.sel (.cons _ (.cons_cons _ (.cons_cons _ (.cons_cons _ (.cons_cons _ (List.Sublist.refl _))))))) ?_
      refine TH.two' (listed1 := #[Tt,Tt,Tt,Tt,Tt,Tt,Tt,Tt,Tt,Ff,Ff,Ff,Tt,Ff,Ff]) (listed2 := #[Tt,Tt,Tt,Tt,Tt,Tt,Tt,Tt,Ff,Ff,Ff,Tt,Tt,Ff,Ff]) 8 11 rfl rfl (by kernel_rfl) rfl rfl ?_ ?_
      ·refine TL.pcallCod (k := 3) (α := {q9 : Nat // q9 ≤ 65535 ∧ (1 ≤ ((x48.l.length : Nat) : Int) → (q9 : Int) < (x48.l.length : Nat))}) (fun q9 => .int .i64 ((q9.1 : Nat) : Int)) (fun q9 => []) rfl rfl rfl rfl rfl Tryz.func25 ddrnm25 ddrbd25 rfl (fun w1 hw hC1 => next_cod wn.heap.size w1 (x48.l.length : Nat) hC1) ?_
       rintro ⟨j, hj1, hj2⟩
       dsimp only [List.cons_append, List.nil_append]
       refine TL.end_ ?_
       refine TX.held (fun w1 hw => hw.sel (.cons _ (.cons_cons _ (.cons_cons _ (.cons_cons _ (.cons_cons _ (List.Sublist.refl _))))))) ?_
       have hi65 : j < x48.l.length := by omega
       obtain ⟨x65, hx65⟩ : ∃ x65, x48.l[j]? = some x65 := ⟨_, List.getElem?_eq_getElem hi65⟩
       have hA65 := hyA (by omega)
       refine TH.tk (listed' := #[Tt,Tt,Tt,Tt,Tt,Tt,Tt,Tt,Tt,Tt,Ff,Ff,Tt,Ff,Ff]) 9 rfl rfl rfl (gives_at (v := .pointer (some ⟨(adB x48.A), (adO x48.A) + j * 17, none⟩)) rfl rfl rfl (fun w => at_el Tryz.underlying26 prssz47 hA65 _ _ j (by omega) rfl w)) (fun w1 hw => hw.sel (.cons _ (.cons_cons _ (.cons_cons _ (.cons_cons _ (.cons_cons _ (List.Sublist.refl _))))))) ?_
       refine TH.tk (listed' := #[Tt,Tt,Tt,Tt,Tt,Tt,Tt,Tt,Tt,Tt,Tt,Ff,Tt,Ff,Ff]) 10 rfl rfl rfl (gives_loadR (off := (adO x48.A) + j * 17) rfl rfl prsag47 prssz47 (rs_cel.len x65) (fun w1 hw j9 u9 h9 => reads_cell rs_cel (x48f.1 w1 (hw)) hA65 hx65 j9 u9 h9)) (fun w1 hw => hw.sel (.cons _ (.cons_cons _ (.cons_cons _ (.cons_cons _ (.cons_cons _ (List.Sublist.refl _))))))) ?_
       refine TH.only' (listed' := #[Tt,Tt,Tt,Tt,Tt,Tt,Tt,Tt,Tt,Tt,Tt,Tt,Tt,Ff,Ff]) 11 rfl (by kernel_rfl) rfl ?_
       refine TL.pnew rfl rfl rfl (exec_alloc (cs := [.int .i64 0, .int .i64 0, .int .i64 0, .int .i64 0, .int .u32 0, .int .i64 0, .int .i64 0, .int .i64 0, .bool false, .bool false, .int .i64 0, .int .u32 0, .int .i64 0, .int .i64 0, .int .i64 0, .int .i64 0, .int .i64 0]) rfl pcpzv47 rfl) (fun g14 => ?_)
       refine TL.end_ ?_
       refine TX.held (fun w1 hw => hw.sel (.cons _ (.cons _ (.cons_cons _ (.cons_cons _ (.cons_cons _ (.cons_cons _ (List.Sublist.refl _)))))))) ?_
       refine TH.only' (listed' := #[Tt,Tt,Tt,Tt,Tt,Tt,Tt,Tt,Tt,Tt,Tt,Tt,Tt,Tt,Ff]) 13 rfl (by kernel_rfl) rfl ?_
       refine TL.pstore (k := 0) (vs := x58.cells) rfl rfl rfl rfl rfl rfl rfl prssz47 (rs_cel.one _) (by show 17 ≤ 17; decide) (L' := ([.blk g14 47 x58.cells, .blk g15 47 [.int .i64 0, .int .i64 0, .int .i64 0, .int .i64 0, .int .u32 0, .int .i64 0, .int .i64 0, .int .i64 0, .bool false, .bool false, .int .i64 0, .int .u32 0, .int .i64 0, .int .i64 0, .int .i64 0, .int .i64 0, .int .i64 0], .row (.slice (some ⟨g44, 0, none⟩) 3 3) 26 1 3 (flat sgc [(⟨Axs, cxs, xs⟩ : Sg Rs), ⟨A1, c1, raw⟩, ⟨Ash, csh, sh⟩]), .row (.slice Ash sh.length csh) 47 17 sh.length (flat Rs.cells sh), .abs wn.heap.size (fun w => Cod w wn.heap.size), .row (.slice Axs xs.length cxs) 47 17 xs.length (flat Rs.cells xs)] ++ mpsP [])) rfl ?_
       refine TL.end_ ?_
       refine TX.held (fun w1 hw => hw.sel (.cons _ (.cons _ (.cons_cons _ (.cons_cons _ (.cons_cons _ (.cons_cons _ (List.Sublist.refl _)))))))) ?_
       refine TH.only' (listed' := #[Tt,Tt,Tt,Tt,Tt,Tt,Tt,Tt,Tt,Tt,Tt,Tt,Tt,Tt,Tt]) 14 rfl (by kernel_rfl) rfl ?_
       refine TL.pstore (k := 1) (vs := x65.cells) rfl rfl rfl rfl rfl rfl rfl prssz47 (rs_cel.one _) (by show 17 ≤ 17; decide) (L' := ([.blk g14 47 x58.cells, .blk g15 47 x65.cells, .row (.slice (some ⟨g44, 0, none⟩) 3 3) 26 1 3 (flat sgc [(⟨Axs, cxs, xs⟩ : Sg Rs), ⟨A1, c1, raw⟩, ⟨Ash, csh, sh⟩]), .row (.slice Ash sh.length csh) 47 17 sh.length (flat Rs.cells sh), .abs wn.heap.size (fun w => Cod w wn.heap.size), .row (.slice Axs xs.length cxs) 47 17 xs.length (flat Rs.cells xs)] ++ mpsP [])) rfl ?_
       refine TL.end_ ?_
       refine TX.held (fun w1 hw => hw.sel (.cons _ (.cons _ (.cons_cons _ (.cons_cons _ (.cons_cons _ (.cons_cons _ (List.Sublist.refl _)))))))) ?_
       refine TH.done (by kernel_rfl) ?_
       exact TX.joined (⟨((g14, g15), x58, x65), List.mem_of_getElem? hx58, List.mem_of_getElem? hx65⟩) (⟨rfl, rfl, rfl, rfl, rfl, rfl, rfl, rfl, rfl, rfl, rfl, trivial⟩) (fun w1 hw => hw)
      ·refine TL.pnew rfl rfl rfl (exec_alloc (cs := [.int .i64 0, .int .i64 0, .int .i64 0, .int .i64 0, .int .u32 0, .int .i64 0, .int .i64 0, .int .i64 0, .bool false, .bool false, .int .i64 0, .int .u32 0, .int .i64 0, .int .i64 0, .int .i64 0, .int .i64 0, .int .i64 0]) rfl pcpzv47 rfl) (fun g14 => ?_)
       refine TL.end_ ?_
       refine TX.held (fun w1 hw => hw.sel (.cons _ (.cons _ (.cons_cons _ (.cons_cons _ (.cons_cons _ (.cons_cons _ (List.Sublist.refl _)))))))) ?_
       refine TH.only' (listed' := #[Tt,Tt,Tt,Tt,Tt,Tt,Tt,Tt,Tt,Ff,Ff,Tt,Tt,Ff,Ff]) 8 rfl (by kernel_rfl) rfl ?_
       refine TL.pcallCod (k := 4) (α := {q9 : Nat // q9 ≤ 65535 ∧ (1 ≤ ((x48.l.length : Nat) : Int) → (q9 : Int) < (x48.l.length : Nat))}) (fun q9 => .int .i64 ((q9.1 : Nat) : Int)) (fun q9 => []) rfl rfl rfl rfl rfl Tryz.func25 ddrnm25 ddrbd25 rfl (fun w1 hw hC1 => next_cod wn.heap.size w1 (x48.l.length : Nat) hC1) ?_
       rintro ⟨j, hj1, hj2⟩
       dsimp only [List.cons_append, List.nil_append]
       refine TL.end_ ?_
       refine TX.held (fun w1 hw => hw.sel (.cons _ (.cons _ (.cons_cons _ (.cons_cons _ (.cons_cons _ (.cons_cons _ (List.Sublist.refl _)))))))) ?_
       have hi65 : j < x48.l.length := by omega
       obtain ⟨x65, hx65⟩ : ∃ x65, x48.l[j]? = some x65 := ⟨_, List.getElem?_eq_getElem hi65⟩
       have hA65 := hyA (by omega)
       refine TH.tk (listed' := #[Tt,Tt,Tt,Tt,Tt,Tt,Tt,Tt,Tt,Tt,Ff,Tt,Tt,Ff,Ff]) 9 rfl rfl rfl (gives_at (v := .pointer (some ⟨(adB x48.A), (adO x48.A) + j * 17, none⟩)) rfl rfl rfl (fun w => at_el Tryz.underlying26 prssz47 hA65 _ _ j (by omega) rfl w)) (fun w1 hw => hw.sel (.cons _ (.cons _ (.cons_cons _ (.cons_cons _ (.cons_cons _ (.cons_cons _ (List.Sublist.refl _)))))))) ?_
       refine TH.tk (listed' := #[Tt,Tt,Tt,Tt,Tt,Tt,Tt,Tt,Tt,Tt,Tt,Tt,Tt,Ff,Ff]) 10 rfl rfl rfl (gives_loadR (off := (adO x48.A) + j * 17) rfl rfl prsag47 prssz47 (rs_cel.len x65) (fun w1 hw j9 u9 h9 => reads_cell rs_cel (x48f.1 w1 (hw)) hA65 hx65 j9 u9 h9)) (fun w1 hw => hw.sel (.cons _ (.cons _ (.cons_cons _ (.cons_cons _ (.cons_cons _ (.cons_cons _ (List.Sublist.refl _)))))))) ?_
       refine TH.only' (listed' := #[Tt,Tt,Tt,Tt,Tt,Tt,Tt,Tt,Tt,Tt,Tt,Tt,Tt,Tt,Ff]) 13 rfl (by kernel_rfl) rfl ?_
       refine TL.pstore (k := 0) (vs := x58.cells) rfl rfl rfl rfl rfl rfl rfl prssz47 (rs_cel.one _) (by show 17 ≤ 17; decide) (L' := ([.blk g14 47 x58.cells, .blk g15 47 [.int .i64 0, .int .i64 0, .int .i64 0, .int .i64 0, .int .u32 0, .int .i64 0, .int .i64 0, .int .i64 0, .bool false, .bool false, .int .i64 0, .int .u32 0, .int .i64 0, .int .i64 0, .int .i64 0, .int .i64 0, .int .i64 0], .row (.slice (some ⟨g44, 0, none⟩) 3 3) 26 1 3 (flat sgc [(⟨Axs, cxs, xs⟩ : Sg Rs), ⟨A1, c1, raw⟩, ⟨Ash, csh, sh⟩]), .row (.slice Ash sh.length csh) 47 17 sh.length (flat Rs.cells sh), .abs wn.heap.size (fun w => Cod w wn.heap.size), .row (.slice Axs xs.length cxs) 47 17 xs.length (flat Rs.cells xs)] ++ mpsP [])) rfl ?_
       refine TL.end_ ?_
       refine TX.held (fun w1 hw => hw.sel (.cons _ (.cons _ (.cons_cons _ (.cons_cons _ (.cons_cons _ (.cons_cons _ (List.Sublist.refl _)))))))) ?_
       refine TH.only' (listed' := #[Tt,Tt,Tt,Tt,Tt,Tt,Tt,Tt,Tt,Tt,Tt,Tt,Tt,Tt,Tt]) 14 rfl (by kernel_rfl) rfl ?_
       refine TL.pstore (k := 1) (vs := x65.cells) rfl rfl rfl rfl rfl rfl rfl prssz47 (rs_cel.one _) (by show 17 ≤ 17; decide) (L' := ([.blk g14 47 x58.cells, .blk g15 47 x65.cells, .row (.slice (some ⟨g44, 0, none⟩) 3 3) 26 1 3 (flat sgc [(⟨Axs, cxs, xs⟩ : Sg Rs), ⟨A1, c1, raw⟩, ⟨Ash, csh, sh⟩]), .row (.slice Ash sh.length csh) 47 17 sh.length (flat Rs.cells sh), .abs wn.heap.size (fun w => Cod w wn.heap.size), .row (.slice Axs xs.length cxs) 47 17 xs.length (flat Rs.cells xs)] ++ mpsP [])) rfl ?_
       refine TL.end_ ?_
       refine TX.held (fun w1 hw => hw.sel (.cons _ (.cons _ (.cons_cons _ (.cons_cons _ (.cons_cons _ (.cons_cons _ (List.Sublist.refl _)))))))) ?_
       refine TH.done (by kernel_rfl) ?_
       exact TX.joined (⟨((g14, g15), x58, x65), List.mem_of_getElem? hx58, List.mem_of_getElem? hx65⟩) (⟨rfl, rfl, rfl, rfl, rfl, rfl, rfl, rfl, rfl, rfl, rfl, trivial⟩) (fun w1 hw => hw)
    ·rintro ⟨⟨⟨ga, gb⟩, za, zb⟩, hza, hzb⟩
     dsimp only at hza hzb ⊢
     refine TC.seq_ ?_
     refine TC.quietP (by kernel_rfl) (by kernel_rfl) (fun w hw => hw.drawn _) ?_
     refine TQ.val rfl rfl rfl (pm_loadV (k := 0) (i := 0) (n := 17) (v := .agg (za.cells).toArray) rfl rfl prsag47 prssz47 rfl (by show 17 ≤ 17; decide) rfl) ?_
     refine TQ.callsplit rfl rfl rfl rfl rfl Tryz.func26 prsnm26 prsbd26 (fun w1 hw => vldRs_any za w1) (fun h68 => ?_) (fun h68 => ?_)
     ·refine TQ.val rfl rfl rfl (pm_loadV (k := 0) (i := 0) (n := 17) (v := .agg (za.cells).toArray) rfl rfl prsag47 prssz47 rfl (by show 17 ≤ 17; decide) rfl) ?_
      refine TQ.call (v := .bool true) rfl rfl rfl rfl rfl Tryz.func27 prsnm27 prsbd27 (fun w1 hw => (rvld_is h68 w1).mono fun en w2 ⟨h1, h2⟩ => ⟨h1, hw.below h2⟩) ?_
      refine TQ.val rfl rfl rfl (gives_bin2 (v := .bool false) rfl rfl rfl (fun w => bin_neb Tryz.underlying4 true true w)) ?_
      refine TQ.val rfl rfl rfl (gives_move rfl rfl) ?_
      refine TQ.on rfl rfl rfl ?_
      refine TQ.val rfl rfl rfl (pm_loadV (k := 0) (i := 0) (n := 17) (v := .agg (za.cells).toArray) rfl rfl prsag47 prssz47 rfl (by show 17 ≤ 17; decide) rfl) ?_
      refine TQ.on rfl rfl rfl ?_
      refine TQ.callsplit rfl rfl rfl rfl rfl Tryz.func28 prsnm28 prsbd28 (fun w1 hw => usbRs_any za w1) (fun h74 => ?_) (fun h74 => ?_)
      ·refine TQ.on rfl rfl rfl ?_
       refine TQ.val rfl rfl rfl (pm_loadV (k := 0) (i := 0) (n := 17) (v := .agg (za.cells).toArray) rfl rfl prsag47 prssz47 rfl (by show 17 ≤ 17; decide) rfl) ?_
       refine TQ.on rfl rfl rfl ?_
       refine TQ.call (v := .bool true) rfl rfl rfl rfl rfl Tryz.func29 prsnm29 prsbd29 (fun w1 hw => (rusb_is h74 w1).mono fun en w2 ⟨h1, h2⟩ => ⟨h1, hw.below h2⟩) ?_
       refine TQ.on rfl rfl rfl ?_
       refine TQ.val rfl rfl rfl (gives_bin2 (v := .bool false) rfl rfl rfl (fun w => bin_neb Tryz.underlying4 true true w)) ?_
       refine TQ.val rfl rfl rfl (gives_pick rfl rfl rfl) ?_
       refine TQ.val rfl rfl rfl (gives_move rfl rfl) ?_
       refine TQ.on rfl rfl rfl ?_
       refine TQ.val rfl rfl rfl (pm_loadV (k := 0) (i := 0) (n := 17) (v := .agg (za.cells).toArray) rfl rfl prsag47 prssz47 rfl (by show 17 ≤ 17; decide) rfl) ?_
       refine TQ.on rfl rfl rfl ?_
       refine TQ.callsplit rfl rfl rfl rfl rfl Tryz.func17 plknm17 plkbd17 (fun w1 hw => finRs_any za w1) (fun h81 => ?_) (fun h81 => ?_)
       ·refine TQ.on rfl rfl rfl ?_
        refine TQ.val rfl rfl rfl (pm_loadV (k := 0) (i := 0) (n := 17) (v := .agg (za.cells).toArray) rfl rfl prsag47 prssz47 rfl (by show 17 ≤ 17; decide) rfl) ?_
        refine TQ.on rfl rfl rfl ?_
        refine TQ.call (v := .bool true) rfl rfl rfl rfl rfl Tryz.func30 plrnm30 plrbd30 (fun w1 hw => (rfin_is h81 w1).mono fun en w2 ⟨h1, h2⟩ => ⟨h1, hw.below h2⟩) ?_
        refine TQ.on rfl rfl rfl ?_
        refine TQ.val rfl rfl rfl (gives_bin2 (v := .bool false) rfl rfl rfl (fun w => bin_neb Tryz.underlying4 true true w)) ?_
        refine TQ.val rfl rfl rfl (gives_pick rfl rfl rfl) ?_
        refine TQ.val rfl rfl rfl (gives_move rfl rfl) ?_
        refine TQ.on rfl rfl rfl ?_
        refine TQ.val rfl rfl rfl (pm_loadV (k := 0) (i := 0) (n := 17) (v := .agg (za.cells).toArray) rfl rfl prsag47 prssz47 rfl (by show 17 ≤ 17; decide) rfl) ?_
        refine TQ.on rfl rfl rfl ?_
        refine TQ.val rfl rfl rfl (pm_loadV (k := 1) (i := 0) (n := 17) (v := .agg (zb.cells).toArray) rfl rfl prsag47 prssz47 rfl (by show 17 ≤ 17; decide) rfl) ?_
        refine TQ.on rfl rfl rfl ?_
        refine TQ.call (v := .int .i64 (cmpRs za zb)) rfl rfl rfl rfl rfl Tryz.func31 pofnm31 pofbd31 (fun w1 hw => (cmpRs_any za zb w1).mono fun en w2 ⟨h1, h2⟩ => ⟨h1, hw.below h2⟩) ?_
        refine TQ.on rfl rfl rfl ?_
        refine TQ.val rfl rfl rfl (pm_loadV (k := 0) (i := 0) (n := 17) (v := .agg (za.cells).toArray) rfl rfl prsag47 prssz47 rfl (by show 17 ≤ 17; decide) rfl) ?_
        refine TQ.on rfl rfl rfl ?_
        refine TQ.val rfl rfl rfl (pm_loadV (k := 1) (i := 0) (n := 17) (v := .agg (zb.cells).toArray) rfl rfl prsag47 prssz47 rfl (by show 17 ≤ 17; decide) rfl) ?_
        refine TQ.on rfl rfl rfl ?_
        refine TQ.call (v := .int .i64 (cmpRs za zb)) rfl rfl rfl rfl rfl Tryz.func32 pronm32 probd32 (fun w1 hw => (rcmpRs_any za zb w1).mono fun en w2 ⟨h1, h2⟩ => ⟨h1, hw.below h2⟩) ?_
        refine TQ.on rfl rfl rfl ?_
        refine TQ.val rfl rfl rfl (gives_bin rfl rfl rfl (fun w => bin_neq_f rfl w)) ?_
        refine TQ.val rfl rfl rfl (gives_pick rfl rfl rfl) ?_
        refine TQ.val rfl rfl rfl (gives_move rfl rfl) ?_
        refine TQ.on rfl rfl rfl ?_
        refine TQ.val rfl rfl rfl (pm_loadV (k := 0) (i := 0) (n := 17) (v := .agg (za.cells).toArray) rfl rfl prsag47 prssz47 rfl (by show 17 ≤ 17; decide) rfl) ?_
        refine TQ.on rfl rfl rfl ?_
        refine TQ.call (v := .agg ((idnR za).cells).toArray) rfl rfl rfl rfl rfl Tryz.func33 pofnm33 pofbd33 (fun w1 hw => (idn_any za w1).mono fun en w2 ⟨h1, h2⟩ => ⟨h1, hw.below h2⟩) ?_
        refine TQ.on rfl rfl rfl ?_
        refine TQ.val rfl rfl rfl (pm_loadV (k := 0) (i := 0) (n := 17) (v := .agg (za.cells).toArray) rfl rfl prsag47 prssz47 rfl (by show 17 ≤ 17; decide) rfl) ?_
        refine TQ.on rfl rfl rfl ?_
        refine TQ.call (v := .agg ((idnR za).cells).toArray) rfl rfl rfl rfl rfl Tryz.func34 pofnm34 pofbd34 (fun w1 hw => (ridn_any za w1).mono fun en w2 ⟨h1, h2⟩ => ⟨h1, hw.below h2⟩) ?_
        refine TQ.on rfl rfl rfl ?_
        refine TQ.val rfl rfl rfl (gives_bin2 (v := .bool false) rfl rfl rfl (fun w => idn_neq_is (x := (idnR za)) (y := (idnR za)) (t := false) (by simp) _ _ w)) ?_
        refine TQ.val rfl rfl rfl (gives_pick rfl rfl rfl) ?_
        refine TQ.val rfl rfl rfl (gives_move rfl rfl) ?_
        refine TQ.on rfl rfl rfl ?_
        refine TQ.val rfl rfl rfl (pm_loadV (k := 0) (i := 0) (n := 17) (v := .agg (za.cells).toArray) rfl rfl prsag47 prssz47 rfl (by show 17 ≤ 17; decide) rfl) ?_
        refine TQ.on rfl rfl rfl ?_
        refine TQ.call (v := .agg ((trcR za).cells).toArray) rfl rfl rfl rfl rfl Tryz.func35 ptrnm35 ptrbd35 (fun w1 hw => (trc_any za w1).mono fun en w2 ⟨h1, h2⟩ => ⟨h1, hw.below h2⟩) ?_
        refine TQ.on rfl rfl rfl ?_
        refine TQ.val rfl rfl rfl (pm_loadV (k := 0) (i := 0) (n := 17) (v := .agg (za.cells).toArray) rfl rfl prsag47 prssz47 rfl (by show 17 ≤ 17; decide) rfl) ?_
        refine TQ.on rfl rfl rfl ?_
        refine TQ.call (v := .agg ((trcR za).cells).toArray) rfl rfl rfl rfl rfl Tryz.func36 ptrnm36 ptrbd36 (fun w1 hw => (rtrc_any za w1).mono fun en w2 ⟨h1, h2⟩ => ⟨h1, hw.below h2⟩) ?_
        refine TQ.on rfl rfl rfl ?_
        refine TQ.val rfl rfl rfl (gives_bin2 (v := .bool false) rfl rfl rfl (fun w => trc_neq_is (x := (trcR za)) (y := (trcR za)) (t := false) (by simp) _ _ w)) ?_
        refine TQ.val rfl rfl rfl (gives_pick rfl rfl rfl) ?_
        refine TQ.fin ?_
        refine TX.then_ (TC.condF rfl (TC.skip_ (TX.in_normal (TX.then_ (TC.region ?_)))))
        refine TL.mv ?_
        refine TL.val rfl rfl rfl (gives_bin rfl rfl rfl (fun w => bin_add_ (r := ((p + 1 : Nat) : Int)) (by simp only [IntKind.wrap_i64]; omega) w)) ?_
        refine TL.as_ ?_
        refine TL.end_ ?_
        exact TX.round (⟨p + 1, by omega⟩) (by show x48.l.length - (p + 1) < x48.l.length - p; omega) ⟨rfl, rfl, rfl, rfl, rfl, rfl, rfl, rfl, rfl, trivial⟩ (fun w1 hw => hw.sel (.cons _ (.cons _ (.cons_cons _ (.cons_cons _ (.cons_cons _ (.cons_cons _ (List.Sublist.refl _))))))))
       ·refine TQ.on rfl rfl rfl ?_
        refine TQ.val rfl rfl rfl (pm_loadV (k := 0) (i := 0) (n := 17) (v := .agg (za.cells).toArray) rfl rfl prsag47 prssz47 rfl (by show 17 ≤ 17; decide) rfl) ?_
        refine TQ.on rfl rfl rfl ?_
        refine TQ.call (v := .bool false) rfl rfl rfl rfl rfl Tryz.func30 plrnm30 plrbd30 (fun w1 hw => (rfin_is h81 w1).mono fun en w2 ⟨h1, h2⟩ => ⟨h1, hw.below h2⟩) ?_
        refine TQ.on rfl rfl rfl ?_
        refine TQ.val rfl rfl rfl (gives_bin2 (v := .bool false) rfl rfl rfl (fun w => bin_neb Tryz.underlying4 false false w)) ?_
        refine TQ.val rfl rfl rfl (gives_pick rfl rfl rfl) ?_
        refine TQ.val rfl rfl rfl (gives_move rfl rfl) ?_
        refine TQ.on rfl rfl rfl ?_
        refine TQ.val rfl rfl rfl (pm_loadV (k := 0) (i := 0) (n := 17) (v := .agg (za.cells).toArray) rfl rfl prsag47 prssz47 rfl (by show 17 ≤ 17; decide) rfl) ?_
        refine TQ.on rfl rfl rfl ?_
        refine TQ.val rfl rfl rfl (pm_loadV (k := 1) (i := 0) (n := 17) (v := .agg (zb.cells).toArray) rfl rfl prsag47 prssz47 rfl (by show 17 ≤ 17; decide) rfl) ?_
        refine TQ.on rfl rfl rfl ?_
        refine TQ.call (v := .int .i64 (cmpRs za zb)) rfl rfl rfl rfl rfl Tryz.func31 pofnm31 pofbd31 (fun w1 hw => (cmpRs_any za zb w1).mono fun en w2 ⟨h1, h2⟩ => ⟨h1, hw.below h2⟩) ?_
        refine TQ.on rfl rfl rfl ?_
        refine TQ.val rfl rfl rfl (pm_loadV (k := 0) (i := 0) (n := 17) (v := .agg (za.cells).toArray) rfl rfl prsag47 prssz47 rfl (by show 17 ≤ 17; decide) rfl) ?_
        refine TQ.on rfl rfl rfl ?_
        refine TQ.val rfl rfl rfl (pm_loadV (k := 1) (i := 0) (n := 17) (v := .agg (zb.cells).toArray) rfl rfl prsag47 prssz47 rfl (by show 17 ≤ 17; decide) rfl) ?_
        refine TQ.on rfl rfl rfl ?_
        refine TQ.call (v := .int .i64 (cmpRs za zb)) rfl rfl rfl rfl rfl Tryz.func32 pronm32 probd32 (fun w1 hw => (rcmpRs_any za zb w1).mono fun en w2 ⟨h1, h2⟩ => ⟨h1, hw.below h2⟩) ?_
        refine TQ.on rfl rfl rfl ?_
        refine TQ.val rfl rfl rfl (gives_bin rfl rfl rfl (fun w => bin_neq_f rfl w)) ?_
        refine TQ.val rfl rfl rfl (gives_pick rfl rfl rfl) ?_
        refine TQ.val rfl rfl rfl (gives_move rfl rfl) ?_
        refine TQ.on rfl rfl rfl ?_
        refine TQ.val rfl rfl rfl (pm_loadV (k := 0) (i := 0) (n := 17) (v := .agg (za.cells).toArray) rfl rfl prsag47 prssz47 rfl (by show 17 ≤ 17; decide) rfl) ?_
        refine TQ.on rfl rfl rfl ?_
        refine TQ.call (v := .agg ((idnR za).cells).toArray) rfl rfl rfl rfl rfl Tryz.func33 pofnm33 pofbd33 (fun w1 hw => (idn_any za w1).mono fun en w2 ⟨h1, h2⟩ => ⟨h1, hw.below h2⟩) ?_
        refine TQ.on rfl rfl rfl ?_
        refine TQ.val rfl rfl rfl (pm_loadV (k := 0) (i := 0) (n := 17) (v := .agg (za.cells).toArray) rfl rfl prsag47 prssz47 rfl (by show 17 ≤ 17; decide) rfl) ?_
        refine TQ.on rfl rfl rfl ?_
        refine TQ.call (v := .agg ((idnR za).cells).toArray) rfl rfl rfl rfl rfl Tryz.func34 pofnm34 pofbd34 (fun w1 hw => (ridn_any za w1).mono fun en w2 ⟨h1, h2⟩ => ⟨h1, hw.below h2⟩) ?_
        refine TQ.on rfl rfl rfl ?_
        refine TQ.val rfl rfl rfl (gives_bin2 (v := .bool false) rfl rfl rfl (fun w => idn_neq_is (x := (idnR za)) (y := (idnR za)) (t := false) (by simp) _ _ w)) ?_
        refine TQ.val rfl rfl rfl (gives_pick rfl rfl rfl) ?_
        refine TQ.val rfl rfl rfl (gives_move rfl rfl) ?_
        refine TQ.on rfl rfl rfl ?_
        refine TQ.val rfl rfl rfl (pm_loadV (k := 0) (i := 0) (n := 17) (v := .agg (za.cells).toArray) rfl rfl prsag47 prssz47 rfl (by show 17 ≤ 17; decide) rfl) ?_
        refine TQ.on rfl rfl rfl ?_
        refine TQ.call (v := .agg ((trcR za).cells).toArray) rfl rfl rfl rfl rfl Tryz.func35 ptrnm35 ptrbd35 (fun w1 hw => (trc_any za w1).mono fun en w2 ⟨h1, h2⟩ => ⟨h1, hw.below h2⟩) ?_
        refine TQ.on rfl rfl rfl ?_
        refine TQ.val rfl rfl rfl (pm_loadV (k := 0) (i := 0) (n := 17) (v := .agg (za.cells).toArray) rfl rfl prsag47 prssz47 rfl (by show 17 ≤ 17; decide) rfl) ?_
        refine TQ.on rfl rfl rfl ?_
        refine TQ.call (v := .agg ((trcR za).cells).toArray) rfl rfl rfl rfl rfl Tryz.func36 ptrnm36 ptrbd36 (fun w1 hw => (rtrc_any za w1).mono fun en w2 ⟨h1, h2⟩ => ⟨h1, hw.below h2⟩) ?_
        refine TQ.on rfl rfl rfl ?_
        refine TQ.val rfl rfl rfl (gives_bin2 (v := .bool false) rfl rfl rfl (fun w => trc_neq_is (x := (trcR za)) (y := (trcR za)) (t := false) (by simp) _ _ w)) ?_
        refine TQ.val rfl rfl rfl (gives_pick rfl rfl rfl) ?_
        refine TQ.fin ?_
        refine TX.then_ (TC.condF rfl (TC.skip_ (TX.in_normal (TX.then_ (TC.region ?_)))))
        refine TL.mv ?_
        refine TL.val rfl rfl rfl (gives_bin rfl rfl rfl (fun w => bin_add_ (r := ((p + 1 : Nat) : Int)) (by simp only [IntKind.wrap_i64]; omega) w)) ?_
        refine TL.as_ ?_
        refine TL.end_ ?_
        exact TX.round (⟨p + 1, by omega⟩) (by show x48.l.length - (p + 1) < x48.l.length - p; omega) ⟨rfl, rfl, rfl, rfl, rfl, rfl, rfl, rfl, rfl, trivial⟩ (fun w1 hw => hw.sel (.cons _ (.cons _ (.cons_cons _ (.cons_cons _ (.cons_cons _ (.cons_cons _ (List.Sublist.refl _))))))))
      ·refine TQ.on rfl rfl rfl ?_
       refine TQ.val rfl rfl rfl (pm_loadV (k := 0) (i := 0) (n := 17) (v := .agg (za.cells).toArray) rfl rfl prsag47 prssz47 rfl (by show 17 ≤ 17; decide) rfl) ?_
       refine TQ.on rfl rfl rfl ?_
       refine TQ.call (v := .bool false) rfl rfl rfl rfl rfl Tryz.func29 prsnm29 prsbd29 (fun w1 hw => (rusb_is h74 w1).mono fun en w2 ⟨h1, h2⟩ => ⟨h1, hw.below h2⟩) ?_
       refine TQ.on rfl rfl rfl ?_
       refine TQ.val rfl rfl rfl (gives_bin2 (v := .bool false) rfl rfl rfl (fun w => bin_neb Tryz.underlying4 false false w)) ?_
       refine TQ.val rfl rfl rfl (gives_pick rfl rfl rfl) ?_
       refine TQ.val rfl rfl rfl (gives_move rfl rfl) ?_
       refine TQ.on rfl rfl rfl ?_
       refine TQ.val rfl rfl rfl (pm_loadV (k := 0) (i := 0) (n := 17) (v := .agg (za.cells).toArray) rfl rfl prsag47 prssz47 rfl (by show 17 ≤ 17; decide) rfl) ?_
       refine TQ.on rfl rfl rfl ?_
       refine TQ.callsplit rfl rfl rfl rfl rfl Tryz.func17 plknm17 plkbd17 (fun w1 hw => finRs_any za w1) (fun h81 => ?_) (fun h81 => ?_)
       ·refine TQ.on rfl rfl rfl ?_
        refine TQ.val rfl rfl rfl (pm_loadV (k := 0) (i := 0) (n := 17) (v := .agg (za.cells).toArray) rfl rfl prsag47 prssz47 rfl (by show 17 ≤ 17; decide) rfl) ?_
        refine TQ.on rfl rfl rfl ?_
        refine TQ.call (v := .bool true) rfl rfl rfl rfl rfl Tryz.func30 plrnm30 plrbd30 (fun w1 hw => (rfin_is h81 w1).mono fun en w2 ⟨h1, h2⟩ => ⟨h1, hw.below h2⟩) ?_
        refine TQ.on rfl rfl rfl ?_
        refine TQ.val rfl rfl rfl (gives_bin2 (v := .bool false) rfl rfl rfl (fun w => bin_neb Tryz.underlying4 true true w)) ?_
        refine TQ.val rfl rfl rfl (gives_pick rfl rfl rfl) ?_
        refine TQ.val rfl rfl rfl (gives_move rfl rfl) ?_
        refine TQ.on rfl rfl rfl ?_
        refine TQ.val rfl rfl rfl (pm_loadV (k := 0) (i := 0) (n := 17) (v := .agg (za.cells).toArray) rfl rfl prsag47 prssz47 rfl (by show 17 ≤ 17; decide) rfl) ?_
        refine TQ.on rfl rfl rfl ?_
        refine TQ.val rfl rfl rfl (pm_loadV (k := 1) (i := 0) (n := 17) (v := .agg (zb.cells).toArray) rfl rfl prsag47 prssz47 rfl (by show 17 ≤ 17; decide) rfl) ?_
        refine TQ.on rfl rfl rfl ?_
        refine TQ.call (v := .int .i64 (cmpRs za zb)) rfl rfl rfl rfl rfl Tryz.func31 pofnm31 pofbd31 (fun w1 hw => (cmpRs_any za zb w1).mono fun en w2 ⟨h1, h2⟩ => ⟨h1, hw.below h2⟩) ?_
        refine TQ.on rfl rfl rfl ?_
        refine TQ.val rfl rfl rfl (pm_loadV (k := 0) (i := 0) (n := 17) (v := .agg (za.cells).toArray) rfl rfl prsag47 prssz47 rfl (by show 17 ≤ 17; decide) rfl) ?_
        refine TQ.on rfl rfl rfl ?_
        refine TQ.val rfl rfl rfl (pm_loadV (k := 1) (i := 0) (n := 17) (v := .agg (zb.cells).toArray) rfl rfl prsag47 prssz47 rfl (by show 17 ≤ 17; decide) rfl) ?_
        refine TQ.on rfl rfl rfl ?_
        refine TQ.call (v := .int .i64 (cmpRs za zb)) rfl rfl rfl rfl rfl Tryz.func32 pronm32 probd32 (fun w1 hw => (rcmpRs_any za zb w1).mono fun en w2 ⟨h1, h2⟩ => ⟨h1, hw.below h2⟩) ?_
        refine TQ.on rfl rfl rfl ?_
        refine TQ.val rfl rfl rfl (gives_bin rfl rfl rfl (fun w => bin_neq_f rfl w)) ?_
        refine TQ.val rfl rfl rfl (gives_pick rfl rfl rfl) ?_
        refine TQ.val rfl rfl rfl (gives_move rfl rfl) ?_
        refine TQ.on rfl rfl rfl ?_
        refine TQ.val rfl rfl rfl (pm_loadV (k := 0) (i := 0) (n := 17) (v := .agg (za.cells).toArray) rfl rfl prsag47 prssz47 rfl (by show 17 ≤ 17; decide) rfl) ?_
        refine TQ.on rfl rfl rfl ?_
        refine TQ.call (v := .agg ((idnR za).cells).toArray) rfl rfl rfl rfl rfl Tryz.func33 pofnm33 pofbd33 (fun w1 hw => (idn_any za w1).mono fun en w2 ⟨h1, h2⟩ => ⟨h1, hw.below h2⟩) ?_
        refine TQ.on rfl rfl rfl ?_
        refine TQ.val rfl rfl rfl (pm_loadV (k := 0) (i := 0) (n := 17) (v := .agg (za.cells).toArray) rfl rfl prsag47 prssz47 rfl (by show 17 ≤ 17; decide) rfl) ?_
        refine TQ.on rfl rfl rfl ?_
        refine TQ.call (v := .agg ((idnR za).cells).toArray) rfl rfl rfl rfl rfl Tryz.func34 pofnm34 pofbd34 (fun w1 hw => (ridn_any za w1).mono fun en w2 ⟨h1, h2⟩ => ⟨h1, hw.below h2⟩) ?_
        refine TQ.on rfl rfl rfl ?_
        refine TQ.val rfl rfl rfl (gives_bin2 (v := .bool false) rfl rfl rfl (fun w => idn_neq_is (x := (idnR za)) (y := (idnR za)) (t := false) (by simp) _ _ w)) ?_
        refine TQ.val rfl rfl rfl (gives_pick rfl rfl rfl) ?_
        refine TQ.val rfl rfl rfl (gives_move rfl rfl) ?_
        refine TQ.on rfl rfl rfl ?_
        refine TQ.val rfl rfl rfl (pm_loadV (k := 0) (i := 0) (n := 17) (v := .agg (za.cells).toArray) rfl rfl prsag47 prssz47 rfl (by show 17 ≤ 17; decide) rfl) ?_
        refine TQ.on rfl rfl rfl ?_
        refine TQ.call (v := .agg ((trcR za).cells).toArray) rfl rfl rfl rfl rfl Tryz.func35 ptrnm35 ptrbd35 (fun w1 hw => (trc_any za w1).mono fun en w2 ⟨h1, h2⟩ => ⟨h1, hw.below h2⟩) ?_
        refine TQ.on rfl rfl rfl ?_
        refine TQ.val rfl rfl rfl (pm_loadV (k := 0) (i := 0) (n := 17) (v := .agg (za.cells).toArray) rfl rfl prsag47 prssz47 rfl (by show 17 ≤ 17; decide) rfl) ?_
        refine TQ.on rfl rfl rfl ?_
        refine TQ.call (v := .agg ((trcR za).cells).toArray) rfl rfl rfl rfl rfl Tryz.func36 ptrnm36 ptrbd36 (fun w1 hw => (rtrc_any za w1).mono fun en w2 ⟨h1, h2⟩ => ⟨h1, hw.below h2⟩) ?_
        refine TQ.on rfl rfl rfl ?_
        refine TQ.val rfl rfl rfl (gives_bin2 (v := .bool false) rfl rfl rfl (fun w => trc_neq_is (x := (trcR za)) (y := (trcR za)) (t := false) (by simp) _ _ w)) ?_
        refine TQ.val rfl rfl rfl (gives_pick rfl rfl rfl) ?_
        refine TQ.fin ?_
        refine TX.then_ (TC.condF rfl (TC.skip_ (TX.in_normal (TX.then_ (TC.region ?_)))))
        refine TL.mv ?_
        refine TL.val rfl rfl rfl (gives_bin rfl rfl rfl (fun w => bin_add_ (r := ((p + 1 : Nat) : Int)) (by simp only [IntKind.wrap_i64]; omega) w)) ?_
        refine TL.as_ ?_
        refine TL.end_ ?_
        exact TX.round (⟨p + 1, by omega⟩) (by show x48.l.length - (p + 1) < x48.l.length - p; omega) ⟨rfl, rfl, rfl, rfl, rfl, rfl, rfl, rfl, rfl, trivial⟩ (fun w1 hw => hw.sel (.cons _ (.cons _ (.cons_cons _ (.cons_cons _ (.cons_cons _ (.cons_cons _ (List.Sublist.refl _))))))))
       ·refine TQ.on rfl rfl rfl ?_
        refine TQ.val rfl rfl rfl (pm_loadV (k := 0) (i := 0) (n := 17) (v := .agg (za.cells).toArray) rfl rfl prsag47 prssz47 rfl (by show 17 ≤ 17; decide) rfl) ?_
        refine TQ.on rfl rfl rfl ?_
        refine TQ.call (v := .bool false) rfl rfl rfl rfl rfl Tryz.func30 plrnm30 plrbd30 (fun w1 hw => (rfin_is h81 w1).mono fun en w2 ⟨h1, h2⟩ => ⟨h1, hw.below h2⟩) ?_
        refine TQ.on rfl rfl rfl ?_
        refine TQ.val rfl rfl rfl (gives_bin2 (v := .bool false) rfl rfl rfl (fun w => bin_neb Tryz.underlying4 false false w)) ?_
        refine TQ.val rfl rfl rfl (gives_pick rfl rfl rfl) ?_
        refine TQ.val rfl rfl rfl (gives_move rfl rfl) ?_
        refine TQ.on rfl rfl rfl ?_
        refine TQ.val rfl rfl rfl (pm_loadV (k := 0) (i := 0) (n := 17) (v := .agg (za.cells).toArray) rfl rfl prsag47 prssz47 rfl (by show 17 ≤ 17; decide) rfl) ?_
        refine TQ.on rfl rfl rfl ?_
        refine TQ.val rfl rfl rfl (pm_loadV (k := 1) (i := 0) (n := 17) (v := .agg (zb.cells).toArray) rfl rfl prsag47 prssz47 rfl (by show 17 ≤ 17; decide) rfl) ?_
        refine TQ.on rfl rfl rfl ?_
        refine TQ.call (v := .int .i64 (cmpRs za zb)) rfl rfl rfl rfl rfl Tryz.func31 pofnm31 pofbd31 (fun w1 hw => (cmpRs_any za zb w1).mono fun en w2 ⟨h1, h2⟩ => ⟨h1, hw.below h2⟩) ?_
        refine TQ.on rfl rfl rfl ?_
        refine TQ.val rfl rfl rfl (pm_loadV (k := 0) (i := 0) (n := 17) (v := .agg (za.cells).toArray) rfl rfl prsag47 prssz47 rfl (by show 17 ≤ 17; decide) rfl) ?_
        refine TQ.on rfl rfl rfl ?_
        refine TQ.val rfl rfl rfl (pm_loadV (k := 1) (i := 0) (n := 17) (v := .agg (zb.cells).toArray) rfl rfl prsag47 prssz47 rfl (by show 17 ≤ 17; decide) rfl) ?_
        refine TQ.on rfl rfl rfl ?_
        refine TQ.call (v := .int .i64 (cmpRs za zb)) rfl rfl rfl rfl rfl Tryz.func32 pronm32 probd32 (fun w1 hw => (rcmpRs_any za zb w1).mono fun en w2 ⟨h1, h2⟩ => ⟨h1, hw.below h2⟩) ?_
        refine TQ.on rfl rfl rfl ?_
        refine TQ.val rfl rfl rfl (gives_bin rfl rfl rfl (fun w => bin_neq_f rfl w)) ?_
        refine TQ.val rfl rfl rfl (gives_pick rfl rfl rfl) ?_
        refine TQ.val rfl rfl rfl (gives_move rfl rfl) ?_
        refine TQ.on rfl rfl rfl ?_
        refine TQ.val rfl rfl rfl (pm_loadV (k := 0) (i := 0) (n := 17) (v := .agg (za.cells).toArray) rfl rfl prsag47 prssz47 rfl (by show 17 ≤ 17; decide) rfl) ?_
        refine TQ.on rfl rfl rfl ?_
        refine TQ.call (v := .agg ((idnR za).cells).toArray) rfl rfl rfl rfl rfl Tryz.func33 pofnm33 pofbd33 (fun w1 hw => (idn_any za w1).mono fun en w2 ⟨h1, h2⟩ => ⟨h1, hw.below h2⟩) ?_
        refine TQ.on rfl rfl rfl ?_
        refine TQ.val rfl rfl rfl (pm_loadV (k := 0) (i := 0) (n := 17) (v := .agg (za.cells).toArray) rfl rfl prsag47 prssz47 rfl (by show 17 ≤ 17; decide) rfl) ?_
        refine TQ.on rfl rfl rfl ?_
        refine TQ.call (v := .agg ((idnR za).cells).toArray) rfl rfl rfl rfl rfl Tryz.func34 pofnm34 pofbd34 (fun w1 hw => (ridn_any za w1).mono fun en w2 ⟨h1, h2⟩ => ⟨h1, hw.below h2⟩) ?_
        refine TQ.on rfl rfl rfl ?_
        refine TQ.val rfl rfl rfl (gives_bin2 (v := .bool false) rfl rfl rfl (fun w => idn_neq_is (x := (idnR za)) (y := (idnR za)) (t := false) (by simp) _ _ w)) ?_
        refine TQ.val rfl rfl rfl (gives_pick rfl rfl rfl) ?_
        refine TQ.val rfl rfl rfl (gives_move rfl rfl) ?_
        refine TQ.on rfl rfl rfl ?_
        refine TQ.val rfl rfl rfl (pm_loadV (k := 0) (i := 0) (n := 17) (v := .agg (za.cells).toArray) rfl rfl prsag47 prssz47 rfl (by show 17 ≤ 17; decide) rfl) ?_
        refine TQ.on rfl rfl rfl ?_
        refine TQ.call (v := .agg ((trcR za).cells).toArray) rfl rfl rfl rfl rfl Tryz.func35 ptrnm35 ptrbd35 (fun w1 hw => (trc_any za w1).mono fun en w2 ⟨h1, h2⟩ => ⟨h1, hw.below h2⟩) ?_
        refine TQ.on rfl rfl rfl ?_
        refine TQ.val rfl rfl rfl (pm_loadV (k := 0) (i := 0) (n := 17) (v := .agg (za.cells).toArray) rfl rfl prsag47 prssz47 rfl (by show 17 ≤ 17; decide) rfl) ?_
        refine TQ.on rfl rfl rfl ?_
        refine TQ.call (v := .agg ((trcR za).cells).toArray) rfl rfl rfl rfl rfl Tryz.func36 ptrnm36 ptrbd36 (fun w1 hw => (rtrc_any za w1).mono fun en w2 ⟨h1, h2⟩ => ⟨h1, hw.below h2⟩) ?_
        refine TQ.on rfl rfl rfl ?_
        refine TQ.val rfl rfl rfl (gives_bin2 (v := .bool false) rfl rfl rfl (fun w => trc_neq_is (x := (trcR za)) (y := (trcR za)) (t := false) (by simp) _ _ w)) ?_
        refine TQ.val rfl rfl rfl (gives_pick rfl rfl rfl) ?_
        refine TQ.fin ?_
        refine TX.then_ (TC.condF rfl (TC.skip_ (TX.in_normal (TX.then_ (TC.region ?_)))))
        refine TL.mv ?_
        refine TL.val rfl rfl rfl (gives_bin rfl rfl rfl (fun w => bin_add_ (r := ((p + 1 : Nat) : Int)) (by simp only [IntKind.wrap_i64]; omega) w)) ?_
        refine TL.as_ ?_
        refine TL.end_ ?_
        exact TX.round (⟨p + 1, by omega⟩) (by show x48.l.length - (p + 1) < x48.l.length - p; omega) ⟨rfl, rfl, rfl, rfl, rfl, rfl, rfl, rfl, rfl, trivial⟩ (fun w1 hw => hw.sel (.cons _ (.cons _ (.cons_cons _ (.cons_cons _ (.cons_cons _ (.cons_cons _ (List.Sublist.refl _))))))))
     ·refine TQ.val rfl rfl rfl (pm_loadV (k := 0) (i := 0) (n := 17) (v := .agg (za.cells).toArray) rfl rfl prsag47 prssz47 rfl (by show 17 ≤ 17; decide) rfl) ?_
      refine TQ.call (v := .bool false) rfl rfl rfl rfl rfl Tryz.func27 prsnm27 prsbd27 (fun w1 hw => (rvld_is h68 w1).mono fun en w2 ⟨h1, h2⟩ => ⟨h1, hw.below h2⟩) ?_
      refine TQ.val rfl rfl rfl (gives_bin2 (v := .bool false) rfl rfl rfl (fun w => bin_neb Tryz.underlying4 false false w)) ?_
      refine TQ.val rfl rfl rfl (gives_move rfl rfl) ?_
      refine TQ.on rfl rfl rfl ?_
      refine TQ.val rfl rfl rfl (pm_loadV (k := 0) (i := 0) (n := 17) (v := .agg (za.cells).toArray) rfl rfl prsag47 prssz47 rfl (by show 17 ≤ 17; decide) rfl) ?_
      refine TQ.on rfl rfl rfl ?_
      refine TQ.callsplit rfl rfl rfl rfl rfl Tryz.func28 prsnm28 prsbd28 (fun w1 hw => usbRs_any za w1) (fun h74 => ?_) (fun h74 => ?_)
      ·refine TQ.on rfl rfl rfl ?_
       refine TQ.val rfl rfl rfl (pm_loadV (k := 0) (i := 0) (n := 17) (v := .agg (za.cells).toArray) rfl rfl prsag47 prssz47 rfl (by show 17 ≤ 17; decide) rfl) ?_
       refine TQ.on rfl rfl rfl ?_
       refine TQ.call (v := .bool true) rfl rfl rfl rfl rfl Tryz.func29 prsnm29 prsbd29 (fun w1 hw => (rusb_is h74 w1).mono fun en w2 ⟨h1, h2⟩ => ⟨h1, hw.below h2⟩) ?_
       refine TQ.on rfl rfl rfl ?_
       refine TQ.val rfl rfl rfl (gives_bin2 (v := .bool false) rfl rfl rfl (fun w => bin_neb Tryz.underlying4 true true w)) ?_
       refine TQ.val rfl rfl rfl (gives_pick rfl rfl rfl) ?_
       refine TQ.val rfl rfl rfl (gives_move rfl rfl) ?_
       refine TQ.on rfl rfl rfl ?_
       refine TQ.val rfl rfl rfl (pm_loadV (k := 0) (i := 0) (n := 17) (v := .agg (za.cells).toArray) rfl rfl prsag47 prssz47 rfl (by show 17 ≤ 17; decide) rfl) ?_
       refine TQ.on rfl rfl rfl ?_
       refine TQ.callsplit rfl rfl rfl rfl rfl Tryz.func17 plknm17 plkbd17 (fun w1 hw => finRs_any za w1) (fun h81 => ?_) (fun h81 => ?_)
       ·refine TQ.on rfl rfl rfl ?_
        refine TQ.val rfl rfl rfl (pm_loadV (k := 0) (i := 0) (n := 17) (v := .agg (za.cells).toArray) rfl rfl prsag47 prssz47 rfl (by show 17 ≤ 17; decide) rfl) ?_
        refine TQ.on rfl rfl rfl ?_
        refine TQ.call (v := .bool true) rfl rfl rfl rfl rfl Tryz.func30 plrnm30 plrbd30 (fun w1 hw => (rfin_is h81 w1).mono fun en w2 ⟨h1, h2⟩ => ⟨h1, hw.below h2⟩) ?_
        refine TQ.on rfl rfl rfl ?_
        refine TQ.val rfl rfl rfl (gives_bin2 (v := .bool false) rfl rfl rfl (fun w => bin_neb Tryz.underlying4 true true w)) ?_
        refine TQ.val rfl rfl rfl (gives_pick rfl rfl rfl) ?_
        refine TQ.val rfl rfl rfl (gives_move rfl rfl) ?_
        refine TQ.on rfl rfl rfl ?_
        refine TQ.val rfl rfl rfl (pm_loadV (k := 0) (i := 0) (n := 17) (v := .agg (za.cells).toArray) rfl rfl prsag47 prssz47 rfl (by show 17 ≤ 17; decide) rfl) ?_
        refine TQ.on rfl rfl rfl ?_
        refine TQ.val rfl rfl rfl (pm_loadV (k := 1) (i := 0) (n := 17) (v := .agg (zb.cells).toArray) rfl rfl prsag47 prssz47 rfl (by show 17 ≤ 17; decide) rfl) ?_
        refine TQ.on rfl rfl rfl ?_
        refine TQ.call (v := .int .i64 (cmpRs za zb)) rfl rfl rfl rfl rfl Tryz.func31 pofnm31 pofbd31 (fun w1 hw => (cmpRs_any za zb w1).mono fun en w2 ⟨h1, h2⟩ => ⟨h1, hw.below h2⟩) ?_
        refine TQ.on rfl rfl rfl ?_
        refine TQ.val rfl rfl rfl (pm_loadV (k := 0) (i := 0) (n := 17) (v := .agg (za.cells).toArray) rfl rfl prsag47 prssz47 rfl (by show 17 ≤ 17; decide) rfl) ?_
        refine TQ.on rfl rfl rfl ?_
        refine TQ.val rfl rfl rfl (pm_loadV (k := 1) (i := 0) (n := 17) (v := .agg (zb.cells).toArray) rfl rfl prsag47 prssz47 rfl (by show 17 ≤ 17; decide) rfl) ?_
        refine TQ.on rfl rfl rfl ?_
        refine TQ.call (v := .int .i64 (cmpRs za zb)) rfl rfl rfl rfl rfl Tryz.func32 pronm32 probd32 (fun w1 hw => (rcmpRs_any za zb w1).mono fun en w2 ⟨h1, h2⟩ => ⟨h1, hw.below h2⟩) ?_
        refine TQ.on rfl rfl rfl ?_
        refine TQ.val rfl rfl rfl (gives_bin rfl rfl rfl (fun w => bin_neq_f rfl w)) ?_
        refine TQ.val rfl rfl rfl (gives_pick rfl rfl rfl) ?_
        refine TQ.val rfl rfl rfl (gives_move rfl rfl) ?_
        refine TQ.on rfl rfl rfl ?_
        refine TQ.val rfl rfl rfl (pm_loadV (k := 0) (i := 0) (n := 17) (v := .agg (za.cells).toArray) rfl rfl prsag47 prssz47 rfl (by show 17 ≤ 17; decide) rfl) ?_
        refine TQ.on rfl rfl rfl ?_
        refine TQ.call (v := .agg ((idnR za).cells).toArray) rfl rfl rfl rfl rfl Tryz.func33 pofnm33 pofbd33 (fun w1 hw => (idn_any za w1).mono fun en w2 ⟨h1, h2⟩ => ⟨h1, hw.below h2⟩) ?_
        refine TQ.on rfl rfl rfl ?_
        refine TQ.val rfl rfl rfl (pm_loadV (k := 0) (i := 0) (n := 17) (v := .agg (za.cells).toArray) rfl rfl prsag47 prssz47 rfl (by show 17 ≤ 17; decide) rfl) ?_
        refine TQ.on rfl rfl rfl ?_
        refine TQ.call (v := .agg ((idnR za).cells).toArray) rfl rfl rfl rfl rfl Tryz.func34 pofnm34 pofbd34 (fun w1 hw => (ridn_any za w1).mono fun en w2 ⟨h1, h2⟩ => ⟨h1, hw.below h2⟩) ?_
        refine TQ.on rfl rfl rfl ?_
        refine TQ.val rfl rfl rfl (gives_bin2 (v := .bool false) rfl rfl rfl (fun w => idn_neq_is (x := (idnR za)) (y := (idnR za)) (t := false) (by simp) _ _ w)) ?_
        refine TQ.val rfl rfl rfl (gives_pick rfl rfl rfl) ?_
        refine TQ.val rfl rfl rfl (gives_move rfl rfl) ?_
        refine TQ.on rfl rfl rfl ?_
        refine TQ.val rfl rfl rfl (pm_loadV (k := 0) (i := 0) (n := 17) (v := .agg (za.cells).toArray) rfl rfl prsag47 prssz47 rfl (by show 17 ≤ 17; decide) rfl) ?_
        refine TQ.on rfl rfl rfl ?_
        refine TQ.call (v := .agg ((trcR za).cells).toArray) rfl rfl rfl rfl rfl Tryz.func35 ptrnm35 ptrbd35 (fun w1 hw => (trc_any za w1).mono fun en w2 ⟨h1, h2⟩ => ⟨h1, hw.below h2⟩) ?_
        refine TQ.on rfl rfl rfl ?_
        refine TQ.val rfl rfl rfl (pm_loadV (k := 0) (i := 0) (n := 17) (v := .agg (za.cells).toArray) rfl rfl prsag47 prssz47 rfl (by show 17 ≤ 17; decide) rfl) ?_
        refine TQ.on rfl rfl rfl ?_
        refine TQ.call (v := .agg ((trcR za).cells).toArray) rfl rfl rfl rfl rfl Tryz.func36 ptrnm36 ptrbd36 (fun w1 hw => (rtrc_any za w1).mono fun en w2 ⟨h1, h2⟩ => ⟨h1, hw.below h2⟩) ?_
        refine TQ.on rfl rfl rfl ?_
        refine TQ.val rfl rfl rfl (gives_bin2 (v := .bool false) rfl rfl rfl (fun w => trc_neq_is (x := (trcR za)) (y := (trcR za)) (t := false) (by simp) _ _ w)) ?_
        refine TQ.val rfl rfl rfl (gives_pick rfl rfl rfl) ?_
        refine TQ.fin ?_
        refine TX.then_ (TC.condF rfl (TC.skip_ (TX.in_normal (TX.then_ (TC.region ?_)))))
        refine TL.mv ?_
        refine TL.val rfl rfl rfl (gives_bin rfl rfl rfl (fun w => bin_add_ (r := ((p + 1 : Nat) : Int)) (by simp only [IntKind.wrap_i64]; omega) w)) ?_
        refine TL.as_ ?_
        refine TL.end_ ?_
        exact TX.round (⟨p + 1, by omega⟩) (by show x48.l.length - (p + 1) < x48.l.length - p; omega) ⟨rfl, rfl, rfl, rfl, rfl, rfl, rfl, rfl, rfl, trivial⟩ (fun w1 hw => hw.sel (.cons _ (.cons _ (.cons_cons _ (.cons_cons _ (.cons_cons _ (.cons_cons _ (List.Sublist.refl _))))))))
       ·refine TQ.on rfl rfl rfl ?_
        refine TQ.val rfl rfl rfl (pm_loadV (k := 0) (i := 0) (n := 17) (v := .agg (za.cells).toArray) rfl rfl prsag47 prssz47 rfl (by show 17 ≤ 17; decide) rfl) ?_
        refine TQ.on rfl rfl rfl ?_
        refine TQ.call (v := .bool false) rfl rfl rfl rfl rfl Tryz.func30 plrnm30 plrbd30 (fun w1 hw => (rfin_is h81 w1).mono fun en w2 ⟨h1, h2⟩ => ⟨h1, hw.below h2⟩) ?_
        refine TQ.on rfl rfl rfl ?_
        refine TQ.val rfl rfl rfl (gives_bin2 (v := .bool false) rfl rfl rfl (fun w => bin_neb Tryz.underlying4 false false w)) ?_
        refine TQ.val rfl rfl rfl (gives_pick rfl rfl rfl) ?_
        refine TQ.val rfl rfl rfl (gives_move rfl rfl) ?_
        refine TQ.on rfl rfl rfl ?_
        refine TQ.val rfl rfl rfl (pm_loadV (k := 0) (i := 0) (n := 17) (v := .agg (za.cells).toArray) rfl rfl prsag47 prssz47 rfl (by show 17 ≤ 17; decide) rfl) ?_
        refine TQ.on rfl rfl rfl ?_
        refine TQ.val rfl rfl rfl (pm_loadV (k := 1) (i := 0) (n := 17) (v := .agg (zb.cells).toArray) rfl rfl prsag47 prssz47 rfl (by show 17 ≤ 17; decide) rfl) ?_
        refine TQ.on rfl rfl rfl ?_
        refine TQ.call (v := .int .i64 (cmpRs za zb)) rfl rfl rfl rfl rfl Tryz.func31 pofnm31 pofbd31 (fun w1 hw => (cmpRs_any za zb w1).mono fun en w2 ⟨h1, h2⟩ => ⟨h1, hw.below h2⟩) ?_
        refine TQ.on rfl rfl rfl ?_
        refine TQ.val rfl rfl rfl (pm_loadV (k := 0) (i := 0) (n := 17) (v := .agg (za.cells).toArray) rfl rfl prsag47 prssz47 rfl (by show 17 ≤ 17; decide) rfl) ?_
        refine TQ.on rfl rfl rfl ?_
        refine TQ.val rfl rfl rfl (pm_loadV (k := 1) (i := 0) (n := 17) (v := .agg (zb.cells).toArray) rfl rfl prsag47 prssz47 rfl (by show 17 ≤ 17; decide) rfl) ?_
        refine TQ.on rfl rfl rfl ?_
        refine TQ.call (v := .int .i64 (cmpRs za zb)) rfl rfl rfl rfl rfl Tryz.func32 pronm32 probd32 (fun w1 hw => (rcmpRs_any za zb w1).mono fun en w2 ⟨h1, h2⟩ => ⟨h1, hw.below h2⟩) ?_
        refine TQ.on rfl rfl rfl ?_
        refine TQ.val rfl rfl rfl (gives_bin rfl rfl rfl (fun w => bin_neq_f rfl w)) ?_
        refine TQ.val rfl rfl rfl (gives_pick rfl rfl rfl) ?_
        refine TQ.val rfl rfl rfl (gives_move rfl rfl) ?_
        refine TQ.on rfl rfl rfl ?_
        refine TQ.val rfl rfl rfl (pm_loadV (k := 0) (i := 0) (n := 17) (v := .agg (za.cells).toArray) rfl rfl prsag47 prssz47 rfl (by show 17 ≤ 17; decide) rfl) ?_
        refine TQ.on rfl rfl rfl ?_
        refine TQ.call (v := .agg ((idnR za).cells).toArray) rfl rfl rfl rfl rfl Tryz.func33 pofnm33 pofbd33 (fun w1 hw => (idn_any za w1).mono fun en w2 ⟨h1, h2⟩ => ⟨h1, hw.below h2⟩) ?_
        refine TQ.on rfl rfl rfl ?_
        refine TQ.val rfl rfl rfl (pm_loadV (k := 0) (i := 0) (n := 17) (v := .agg (za.cells).toArray) rfl rfl prsag47 prssz47 rfl (by show 17 ≤ 17; decide) rfl) ?_
        refine TQ.on rfl rfl rfl ?_
        refine TQ.call (v := .agg ((idnR za).cells).toArray) rfl rfl rfl rfl rfl Tryz.func34 pofnm34 pofbd34 (fun w1 hw => (ridn_any za w1).mono fun en w2 ⟨h1, h2⟩ => ⟨h1, hw.below h2⟩) ?_
        refine TQ.on rfl rfl rfl ?_
        refine TQ.val rfl rfl rfl (gives_bin2 (v := .bool false) rfl rfl rfl (fun w => idn_neq_is (x := (idnR za)) (y := (idnR za)) (t := false) (by simp) _ _ w)) ?_
        refine TQ.val rfl rfl rfl (gives_pick rfl rfl rfl) ?_
        refine TQ.val rfl rfl rfl (gives_move rfl rfl) ?_
        refine TQ.on rfl rfl rfl ?_
        refine TQ.val rfl rfl rfl (pm_loadV (k := 0) (i := 0) (n := 17) (v := .agg (za.cells).toArray) rfl rfl prsag47 prssz47 rfl (by show 17 ≤ 17; decide) rfl) ?_
        refine TQ.on rfl rfl rfl ?_
        refine TQ.call (v := .agg ((trcR za).cells).toArray) rfl rfl rfl rfl rfl Tryz.func35 ptrnm35 ptrbd35 (fun w1 hw => (trc_any za w1).mono fun en w2 ⟨h1, h2⟩ => ⟨h1, hw.below h2⟩) ?_
        refine TQ.on rfl rfl rfl ?_
        refine TQ.val rfl rfl rfl (pm_loadV (k := 0) (i := 0) (n := 17) (v := .agg (za.cells).toArray) rfl rfl prsag47 prssz47 rfl (by show 17 ≤ 17; decide) rfl) ?_
        refine TQ.on rfl rfl rfl ?_
        refine TQ.call (v := .agg ((trcR za).cells).toArray) rfl rfl rfl rfl rfl Tryz.func36 ptrnm36 ptrbd36 (fun w1 hw => (rtrc_any za w1).mono fun en w2 ⟨h1, h2⟩ => ⟨h1, hw.below h2⟩) ?_
        refine TQ.on rfl rfl rfl ?_
        refine TQ.val rfl rfl rfl (gives_bin2 (v := .bool false) rfl rfl rfl (fun w => trc_neq_is (x := (trcR za)) (y := (trcR za)) (t := false) (by simp) _ _ w)) ?_
        refine TQ.val rfl rfl rfl (gives_pick rfl rfl rfl) ?_
        refine TQ.fin ?_
        refine TX.then_ (TC.condF rfl (TC.skip_ (TX.in_normal (TX.then_ (TC.region ?_)))))
        refine TL.mv ?_
        refine TL.val rfl rfl rfl (gives_bin rfl rfl rfl (fun w => bin_add_ (r := ((p + 1 : Nat) : Int)) (by simp only [IntKind.wrap_i64]; omega) w)) ?_
        refine TL.as_ ?_
        refine TL.end_ ?_
        exact TX.round (⟨p + 1, by omega⟩) (by show x48.l.length - (p + 1) < x48.l.length - p; omega) ⟨rfl, rfl, rfl, rfl, rfl, rfl, rfl, rfl, rfl, trivial⟩ (fun w1 hw => hw.sel (.cons _ (.cons _ (.cons_cons _ (.cons_cons _ (.cons_cons _ (.cons_cons _ (List.Sublist.refl _))))))))
      ·refine TQ.on rfl rfl rfl ?_
       refine TQ.val rfl rfl rfl (pm_loadV (k := 0) (i := 0) (n := 17) (v := .agg (za.cells).toArray) rfl rfl prsag47 prssz47 rfl (by show 17 ≤ 17; decide) rfl) ?_
       refine TQ.on rfl rfl rfl ?_
       refine TQ.call (v := .bool false) rfl rfl rfl rfl rfl Tryz.func29 prsnm29 prsbd29 (fun w1 hw => (rusb_is h74 w1).mono fun en w2 ⟨h1, h2⟩ => ⟨h1, hw.below h2⟩) ?_
       refine TQ.on rfl rfl rfl ?_
       refine TQ.val rfl rfl rfl (gives_bin2 (v := .bool false) rfl rfl rfl (fun w => bin_neb Tryz.underlying4 false false w)) ?_
       refine TQ.val rfl rfl rfl (gives_pick rfl rfl rfl) ?_
       refine TQ.val rfl rfl rfl (gives_move rfl rfl) ?_
       refine TQ.on rfl rfl rfl ?_
       refine TQ.val rfl rfl rfl (pm_loadV (k := 0) (i := 0) (n := 17) (v := .agg (za.cells).toArray) rfl rfl prsag47 prssz47 rfl (by show 17 ≤ 17; decide) rfl) ?_
       refine TQ.on rfl rfl rfl ?_
       refine TQ.callsplit rfl rfl rfl rfl rfl Tryz.func17 plknm17 plkbd17 (fun w1 hw => finRs_any za w1) (fun h81 => ?_) (fun h81 => ?_)
       ·refine TQ.on rfl rfl rfl ?_
        refine TQ.val rfl rfl rfl (pm_loadV (k := 0) (i := 0) (n := 17) (v := .agg (za.cells).toArray) rfl rfl prsag47 prssz47 rfl (by show 17 ≤ 17; decide) rfl) ?_
        refine TQ.on rfl rfl rfl ?_
        refine TQ.call (v := .bool true) rfl rfl rfl rfl rfl Tryz.func30 plrnm30 plrbd30 (fun w1 hw => (rfin_is h81 w1).mono fun en w2 ⟨h1, h2⟩ => ⟨h1, hw.below h2⟩) ?_
        refine TQ.on rfl rfl rfl ?_
        refine TQ.val rfl rfl rfl (gives_bin2 (v := .bool false) rfl rfl rfl (fun w => bin_neb Tryz.underlying4 true true w)) ?_
        refine TQ.val rfl rfl rfl (gives_pick rfl rfl rfl) ?_
        refine TQ.val rfl rfl rfl (gives_move rfl rfl) ?_
        refine TQ.on rfl rfl rfl ?_
        refine TQ.val rfl rfl rfl (pm_loadV (k := 0) (i := 0) (n := 17) (v := .agg (za.cells).toArray) rfl rfl prsag47 prssz47 rfl (by show 17 ≤ 17; decide) rfl) ?_
        refine TQ.on rfl rfl rfl ?_
        refine TQ.val rfl rfl rfl (pm_loadV (k := 1) (i := 0) (n := 17) (v := .agg (zb.cells).toArray) rfl rfl prsag47 prssz47 rfl (by show 17 ≤ 17; decide) rfl) ?_
        refine TQ.on rfl rfl rfl ?_
        refine TQ.call (v := .int .i64 (cmpRs za zb)) rfl rfl rfl rfl rfl Tryz.func31 pofnm31 pofbd31 (fun w1 hw => (cmpRs_any za zb w1).mono fun en w2 ⟨h1, h2⟩ => ⟨h1, hw.below h2⟩) ?_
        refine TQ.on rfl rfl rfl ?_
        refine TQ.val rfl rfl rfl (pm_loadV (k := 0) (i := 0) (n := 17) (v := .agg (za.cells).toArray) rfl rfl prsag47 prssz47 rfl (by show 17 ≤ 17; decide) rfl) ?_
        refine TQ.on rfl rfl rfl ?_
        refine TQ.val rfl rfl rfl (pm_loadV (k := 1) (i := 0) (n := 17) (v := .agg (zb.cells).toArray) rfl rfl prsag47 prssz47 rfl (by show 17 ≤ 17; decide) rfl) ?_
        refine TQ.on rfl rfl rfl ?_
        refine TQ.call (v := .int .i64 (cmpRs za zb)) rfl rfl rfl rfl rfl Tryz.func32 pronm32 probd32 (fun w1 hw => (rcmpRs_any za zb w1).mono fun en w2 ⟨h1, h2⟩ => ⟨h1, hw.below h2⟩) ?_
        refine TQ.on rfl rfl rfl ?_
        refine TQ.val rfl rfl rfl (gives_bin rfl rfl rfl (fun w => bin_neq_f rfl w)) ?_
        refine TQ.val rfl rfl rfl (gives_pick rfl rfl rfl) ?_
        refine TQ.val rfl rfl rfl (gives_move rfl rfl) ?_
        refine TQ.on rfl rfl rfl ?_
        refine TQ.val rfl rfl rfl (pm_loadV (k := 0) (i := 0) (n := 17) (v := .agg (za.cells).toArray) rfl rfl prsag47 prssz47 rfl (by show 17 ≤ 17; decide) rfl) ?_
        refine TQ.on rfl rfl rfl ?_
        refine TQ.call (v := .agg ((idnR za).cells).toArray) rfl rfl rfl rfl rfl Tryz.func33 pofnm33 pofbd33 (fun w1 hw => (idn_any za w1).mono fun en w2 ⟨h1, h2⟩ => ⟨h1, hw.below h2⟩) ?_
        refine TQ.on rfl rfl rfl ?_
        refine TQ.val rfl rfl rfl (pm_loadV (k := 0) (i := 0) (n := 17) (v := .agg (za.cells).toArray) rfl rfl prsag47 prssz47 rfl (by show 17 ≤ 17; decide) rfl) ?_
        refine TQ.on rfl rfl rfl ?_
        refine TQ.call (v := .agg ((idnR za).cells).toArray) rfl rfl rfl rfl rfl Tryz.func34 pofnm34 pofbd34 (fun w1 hw => (ridn_any za w1).mono fun en w2 ⟨h1, h2⟩ => ⟨h1, hw.below h2⟩) ?_
        refine TQ.on rfl rfl rfl ?_
        refine TQ.val rfl rfl rfl (gives_bin2 (v := .bool false) rfl rfl rfl (fun w => idn_neq_is (x := (idnR za)) (y := (idnR za)) (t := false) (by simp) _ _ w)) ?_
        refine TQ.val rfl rfl rfl (gives_pick rfl rfl rfl) ?_
        refine TQ.val rfl rfl rfl (gives_move rfl rfl) ?_
        refine TQ.on rfl rfl rfl ?_
        refine TQ.val rfl rfl rfl (pm_loadV (k := 0) (i := 0) (n := 17) (v := .agg (za.cells).toArray) rfl rfl prsag47 prssz47 rfl (by show 17 ≤ 17; decide) rfl) ?_
        refine TQ.on rfl rfl rfl ?_
        refine TQ.call (v := .agg ((trcR za).cells).toArray) rfl rfl rfl rfl rfl Tryz.func35 ptrnm35 ptrbd35 (fun w1 hw => (trc_any za w1).mono fun en w2 ⟨h1, h2⟩ => ⟨h1, hw.below h2⟩) ?_
        refine TQ.on rfl rfl rfl ?_
        refine TQ.val rfl rfl rfl (pm_loadV (k := 0) (i := 0) (n := 17) (v := .agg (za.cells).toArray) rfl rfl prsag47 prssz47 rfl (by show 17 ≤ 17; decide) rfl) ?_
        refine TQ.on rfl rfl rfl ?_
        refine TQ.call (v := .agg ((trcR za).cells).toArray) rfl rfl rfl rfl rfl Tryz.func36 ptrnm36 ptrbd36 (fun w1 hw => (rtrc_any za w1).mono fun en w2 ⟨h1, h2⟩ => ⟨h1, hw.below h2⟩) ?_
        refine TQ.on rfl rfl rfl ?_
        refine TQ.val rfl rfl rfl (gives_bin2 (v := .bool false) rfl rfl rfl (fun w => trc_neq_is (x := (trcR za)) (y := (trcR za)) (t := false) (by simp) _ _ w)) ?_
        refine TQ.val rfl rfl rfl (gives_pick rfl rfl rfl) ?_
        refine TQ.fin ?_
        refine TX.then_ (TC.condF rfl (TC.skip_ (TX.in_normal (TX.then_ (TC.region ?_)))))
        refine TL.mv ?_
        refine TL.val rfl rfl rfl (gives_bin rfl rfl rfl (fun w => bin_add_ (r := ((p + 1 : Nat) : Int)) (by simp only [IntKind.wrap_i64]; omega) w)) ?_
        refine TL.as_ ?_
        refine TL.end_ ?_
        exact TX.round (⟨p + 1, by omega⟩) (by show x48.l.length - (p + 1) < x48.l.length - p; omega) ⟨rfl, rfl, rfl, rfl, rfl, rfl, rfl, rfl, rfl, trivial⟩ (fun w1 hw => hw.sel (.cons _ (.cons _ (.cons_cons _ (.cons_cons _ (.cons_cons _ (.cons_cons _ (List.Sublist.refl _))))))))
       ·refine TQ.on rfl rfl rfl ?_
        refine TQ.val rfl rfl rfl (pm_loadV (k := 0) (i := 0) (n := 17) (v := .agg (za.cells).toArray) rfl rfl prsag47 prssz47 rfl (by show 17 ≤ 17; decide) rfl) ?_
        refine TQ.on rfl rfl rfl ?_
        refine TQ.call (v := .bool false) rfl rfl rfl rfl rfl Tryz.func30 plrnm30 plrbd30 (fun w1 hw => (rfin_is h81 w1).mono fun en w2 ⟨h1, h2⟩ => ⟨h1, hw.below h2⟩) ?_
        refine TQ.on rfl rfl rfl ?_
        refine TQ.val rfl rfl rfl (gives_bin2 (v := .bool false) rfl rfl rfl (fun w => bin_neb Tryz.underlying4 false false w)) ?_
        refine TQ.val rfl rfl rfl (gives_pick rfl rfl rfl) ?_
        refine TQ.val rfl rfl rfl (gives_move rfl rfl) ?_
        refine TQ.on rfl rfl rfl ?_
        refine TQ.val rfl rfl rfl (pm_loadV (k := 0) (i := 0) (n := 17) (v := .agg (za.cells).toArray) rfl rfl prsag47 prssz47 rfl (by show 17 ≤ 17; decide) rfl) ?_
        refine TQ.on rfl rfl rfl ?_
        refine TQ.val rfl rfl rfl (pm_loadV (k := 1) (i := 0) (n := 17) (v := .agg (zb.cells).toArray) rfl rfl prsag47 prssz47 rfl (by show 17 ≤ 17; decide) rfl) ?_
        refine TQ.on rfl rfl rfl ?_
        refine TQ.call (v := .int .i64 (cmpRs za zb)) rfl rfl rfl rfl rfl Tryz.func31 pofnm31 pofbd31 (fun w1 hw => (cmpRs_any za zb w1).mono fun en w2 ⟨h1, h2⟩ => ⟨h1, hw.below h2⟩) ?_
        refine TQ.on rfl rfl rfl ?_
        refine TQ.val rfl rfl rfl (pm_loadV (k := 0) (i := 0) (n := 17) (v := .agg (za.cells).toArray) rfl rfl prsag47 prssz47 rfl (by show 17 ≤ 17; decide) rfl) ?_
        refine TQ.on rfl rfl rfl ?_
        refine TQ.val rfl rfl rfl (pm_loadV (k := 1) (i := 0) (n := 17) (v := .agg (zb.cells).toArray) rfl rfl prsag47 prssz47 rfl (by show 17 ≤ 17; decide) rfl) ?_
        refine TQ.on rfl rfl rfl ?_
        refine TQ.call (v := .int .i64 (cmpRs za zb)) rfl rfl rfl rfl rfl Tryz.func32 pronm32 probd32 (fun w1 hw => (rcmpRs_any za zb w1).mono fun en w2 ⟨h1, h2⟩ => ⟨h1, hw.below h2⟩) ?_
        refine TQ.on rfl rfl rfl ?_
        refine TQ.val rfl rfl rfl (gives_bin rfl rfl rfl (fun w => bin_neq_f rfl w)) ?_
        refine TQ.val rfl rfl rfl (gives_pick rfl rfl rfl) ?_
        refine TQ.val rfl rfl rfl (gives_move rfl rfl) ?_
        refine TQ.on rfl rfl rfl ?_
        refine TQ.val rfl rfl rfl (pm_loadV (k := 0) (i := 0) (n := 17) (v := .agg (za.cells).toArray) rfl rfl prsag47 prssz47 rfl (by show 17 ≤ 17; decide) rfl) ?_
        refine TQ.on rfl rfl rfl ?_
        refine TQ.call (v := .agg ((idnR za).cells).toArray) rfl rfl rfl rfl rfl Tryz.func33 pofnm33 pofbd33 (fun w1 hw => (idn_any za w1).mono fun en w2 ⟨h1, h2⟩ => ⟨h1, hw.below h2⟩) ?_
        refine TQ.on rfl rfl rfl ?_
        refine TQ.val rfl rfl rfl (pm_loadV (k := 0) (i := 0) (n := 17) (v := .agg (za.cells).toArray) rfl rfl prsag47 prssz47 rfl (by show 17 ≤ 17; decide) rfl) ?_
        refine TQ.on rfl rfl rfl ?_
        refine TQ.call (v := .agg ((idnR za).cells).toArray) rfl rfl rfl rfl rfl Tryz.func34 pofnm34 pofbd34 (fun w1 hw => (ridn_any za w1).mono fun en w2 ⟨h1, h2⟩ => ⟨h1, hw.below h2⟩) ?_
        refine TQ.on rfl rfl rfl ?_
        refine TQ.val rfl rfl rfl (gives_bin2 (v := .bool false) rfl rfl rfl (fun w => idn_neq_is (x := (idnR za)) (y := (idnR za)) (t := false) (by simp) _ _ w)) ?_
        refine TQ.val rfl rfl rfl (gives_pick rfl rfl rfl) ?_
        refine TQ.val rfl rfl rfl (gives_move rfl rfl) ?_
        refine TQ.on rfl rfl rfl ?_
        refine TQ.val rfl rfl rfl (pm_loadV (k := 0) (i := 0) (n := 17) (v := .agg (za.cells).toArray) rfl rfl prsag47 prssz47 rfl (by show 17 ≤ 17; decide) rfl) ?_
        refine TQ.on rfl rfl rfl ?_
        refine TQ.call (v := .agg ((trcR za).cells).toArray) rfl rfl rfl rfl rfl Tryz.func35 ptrnm35 ptrbd35 (fun w1 hw => (trc_any za w1).mono fun en w2 ⟨h1, h2⟩ => ⟨h1, hw.below h2⟩) ?_
        refine TQ.on rfl rfl rfl ?_
        refine TQ.val rfl rfl rfl (pm_loadV (k := 0) (i := 0) (n := 17) (v := .agg (za.cells).toArray) rfl rfl prsag47 prssz47 rfl (by show 17 ≤ 17; decide) rfl) ?_
        refine TQ.on rfl rfl rfl ?_
        refine TQ.call (v := .agg ((trcR za).cells).toArray) rfl rfl rfl rfl rfl Tryz.func36 ptrnm36 ptrbd36 (fun w1 hw => (rtrc_any za w1).mono fun en w2 ⟨h1, h2⟩ => ⟨h1, hw.below h2⟩) ?_
        refine TQ.on rfl rfl rfl ?_
        refine TQ.val rfl rfl rfl (gives_bin2 (v := .bool false) rfl rfl rfl (fun w => trc_neq_is (x := (trcR za)) (y := (trcR za)) (t := false) (by simp) _ _ w)) ?_
        refine TQ.val rfl rfl rfl (gives_pick rfl rfl rfl) ?_
        refine TQ.fin ?_
        refine TX.then_ (TC.condF rfl (TC.skip_ (TX.in_normal (TX.then_ (TC.region ?_)))))
        refine TL.mv ?_
        refine TL.val rfl rfl rfl (gives_bin rfl rfl rfl (fun w => bin_add_ (r := ((p + 1 : Nat) : Int)) (by simp only [IntKind.wrap_i64]; omega) w)) ?_
        refine TL.as_ ?_
        refine TL.end_ ?_
        exact TX.round (⟨p + 1, by omega⟩) (by show x48.l.length - (p + 1) < x48.l.length - p; omega) ⟨rfl, rfl, rfl, rfl, rfl, rfl, rfl, rfl, rfl, trivial⟩ (fun w1 hw => hw.sel (.cons _ (.cons _ (.cons_cons _ (.cons_cons _ (.cons_cons _ (.cons_cons _ (List.Sublist.refl _))))))))
   ·have q53 := of_decide_eq_false h53
    refine TL.end_ (TX.then_ (TC.condF rfl (TC.exit_ (TX.then_exit (TX.then_exit (TX.in_same (TX.then_ (TC.seq_ (TC.region ?_)))))))))
    refine TL.mv ?_
    refine TL.pcallPm (α := {y : (Option Addr × Nat) × List Trc // IsTrc x48.l y.2 ∧ y.2.length ≤ y.1.2 ∧ y.1.2 ≤ maxLen}) (fun x => .slice x.1.1.1 x.1.2.length x.1.1.2) (fun x => [.row (.slice x.1.1.1 x.1.2.length x.1.1.2) 32 3 x.1.2.length (flat Trc.cells x.1.2)]) rfl rfl rfl rfl rfl Tryz.func37 pcknm37 pckbd37 (fun w1 hw => trs_any x48.A x48.c x48.l w1 (x48f.1 w1 (hw)) (by omega)) ?_
    rintro ⟨⟨⟨R110, rc110⟩, tr110⟩, hP110, hR1101, hR1102⟩
    dsimp only [List.cons_append, List.nil_append]
    dsimp only at hP110 hR1101 hR1102 ⊢
    refine TL.mv ?_
    refine TL.pcallPm (α := {y : (Option Addr × Nat) × List Trc // IsTrc x48.l y.2 ∧ y.2.length ≤ y.1.2 ∧ y.1.2 ≤ maxLen}) (fun x => .slice x.1.1.1 x.1.2.length x.1.1.2) (fun x => [.row (.slice x.1.1.1 x.1.2.length x.1.1.2) 32 3 x.1.2.length (flat Trc.cells x.1.2)]) rfl rfl rfl rfl rfl Tryz.func38 plrnm38 plrbd38 (fun w1 hw => rtrs_any x48.A x48.c x48.l w1 (x48f.1 w1 (hw.sel (.cons _ (.cons_cons _ (.cons_cons _ (.cons_cons _ (.cons_cons _ (List.Sublist.refl _)))))))) (by omega) x48f.2.1) ?_
    rintro ⟨⟨⟨R112, rc112⟩, tr112⟩, hP112, hR1121, hR1122⟩
    dsimp only [List.cons_append, List.nil_append]
    dsimp only at hP112 hR1121 hR1122 ⊢
    obtain rfl : tr110 = tr112 := IsTrc.eq hP110 hP112
    refine TL.as_ ?_
    refine TL.as_ ?_
    refine TL.end_ (TX.then_ (TC.seq_ (TC.seq_ ?_)))
    have htl110 := trc_len hP110
    refine TC.region ?_
    refine TL.mv ?_
    refine TL.pcallPm (α := {y : (Option Addr × Nat) × List Rs // IsOrd x48.l y.2 ∧ y.2.length ≤ y.1.2 ∧ y.1.2 ≤ maxLen}) (fun x => .slice x.1.1.1 x.1.2.length x.1.1.2) (fun x => [.row (.slice x.1.1.1 x.1.2.length x.1.1.2) 47 17 x.1.2.length (flat Rs.cells x.1.2)]) rfl rfl rfl rfl rfl Tryz.func40 pofnm40 pofbd40 (fun w1 hw => ord_any x48.A x48.c x48.l w1 (x48f.1 w1 (hw.sel (.cons _ (.cons _ (.cons_cons _ (.cons_cons _ (.cons_cons _ (.cons_cons _ (List.Sublist.refl _))))))))) (by omega) x48f.2.1) ?_
    rintro ⟨⟨⟨R114, rc114⟩, o114⟩, hP114, hR1141, hR1142⟩
    dsimp only [List.cons_append, List.nil_append]
    dsimp only at hP114 hR1141 hR1142 ⊢
    have hln114 := hP114.le
    refine TL.mv ?_
    refine TL.pcallPm (α := {y : (Option Addr × Nat) × List Rs // IsOrd x48.l y.2 ∧ y.2.length ≤ y.1.2 ∧ y.1.2 ≤ maxLen}) (fun x => .slice x.1.1.1 x.1.2.length x.1.1.2) (fun x => [.row (.slice x.1.1.1 x.1.2.length x.1.1.2) 47 17 x.1.2.length (flat Rs.cells x.1.2)]) rfl rfl rfl rfl rfl Tryz.func41 pofnm41 pofbd41 (fun w1 hw => rord_any x48.A x48.c x48.l w1 (x48f.1 w1 (hw.sel (.cons _ (.cons _ (.cons _ (.cons_cons _ (.cons_cons _ (.cons_cons _ (.cons_cons _ (List.Sublist.refl _)))))))))) (by omega) x48f.2.1) ?_
    rintro ⟨⟨⟨R116, rc116⟩, o116⟩, hP116, hR1161, hR1162⟩
    dsimp only [List.cons_append, List.nil_append]
    dsimp only at hP116 hR1161 hR1162 ⊢
    have hln116 := hP116.le
    obtain rfl : o114 = o116 := IsOrd.eq hP114 hP116
    refine TL.pcall1 (r := .bool true) rfl rfl rfl rfl rfl Tryz.func39 plrnm39 plrbd39 (fun w1 hw => (by have h9 := sameRs_any R114 rc114 o114 R116 rc116 o114 w1 (pm_rd hw (k := 1) rfl) (pm_rd hw (k := 0) rfl) (by omega); rw [decide_eq_true rfl] at h9; exact h9)) ?_
    iterate 5 (first | refine TL.gu ?_ | refine TL.mv ?_ | refine TL.val rfl rfl rfl (gives_boolnot rfl rfl) ?_)
    refine TL.val rfl rfl rfl (gives_len rfl Tryz.underlying73 rfl) ?_
    refine TL.gu ?_
    refine TL.mv ?_
    refine TL.gu ?_
    refine TL.val rfl rfl rfl (gives_len rfl Tryz.underlying73 rfl) ?_
    refine TL.gu ?_
    refine TL.val rfl rfl rfl (gives_bin rfl rfl rfl (fun w => bin_neq_f rfl w)) ?_
    refine TL.pk ?_
    refine TL.end_ (TX.then_ (TC.condF rfl (TC.skip_ (TX.then_ (TC.seq_ (TC.seq_ (TC.region ?_)))))))
    refine TL.mv ?_
    refine TL.val rfl rfl rfl (gives_len rfl Tryz.underlying73 rfl) ?_
    refine TL.mv ?_
    refine TL.end_ (TX.then_ (TC.block ?_))
    refine TC.loop_ (α := {q : Nat // q ≤ tr110.length}) (fun y => [(6, .pointer (some ⟨g6, 0, none⟩)), (7, .pointer (some ⟨g7, 0, none⟩)), (8, .bool false), (9, .pointer (some ⟨wn.heap.size, 0, none⟩)), (12, .slice x48.A x48.l.length x48.c), (16, .slice R110 tr110.length rc110), (17, .slice R112 tr110.length rc112), (44, .slice (some ⟨g44, 0, none⟩) 3 3), (45, .int .i64 3), (46, .int .i64 ((i : Nat) : Int)), (126, .slice R110 tr110.length rc110), (127, .int .i64 (tr110.length : Nat)), (128, .int .i64 ((y.1 : Nat) : Int))]) (fun y => Pm wn ([.row (.slice R116 o114.length rc116) 47 17 o114.length (flat Rs.cells o114), .row (.slice R114 o114.length rc114) 47 17 o114.length (flat Rs.cells o114), .row (.slice R112 tr110.length rc112) 32 3 tr110.length (flat Trc.cells tr110), .row (.slice R110 tr110.length rc110) 32 3 tr110.length (flat Trc.cells tr110), .row (.slice (some ⟨g44, 0, none⟩) 3 3) 26 1 3 (flat sgc [(⟨Axs, cxs, xs⟩ : Sg Rs), ⟨A1, c1, raw⟩, ⟨Ash, csh, sh⟩]), .row (.slice Ash sh.length csh) 47 17 sh.length (flat Rs.cells sh), .abs wn.heap.size (fun w => Cod w wn.heap.size), .row (.slice Axs xs.length cxs) 47 17 xs.length (flat Rs.cells xs)] ++ mpsP [])) (fun y => tr110.length - y.1) (⟨0, Nat.zero_le _⟩) ⟨rfl, rfl, rfl, rfl, rfl, rfl, rfl, rfl, rfl, rfl, rfl, rfl, rfl, trivial⟩ (fun w1 hw => hw) ?_
    rintro ⟨q, hq⟩
    try dsimp only at hq ⊢
    refine TC.seq_ (TC.region ?_)
    refine TL.vsplit rfl rfl rfl (gives_bin rfl rfl rfl (fun w => bin_lss w)) (fun h129 => ?_) (fun h129 => ?_)
    ·have q129 := of_decide_eq_true h129
     refine TL.end_ (TX.then_ (TC.seq_ (TC.condT rfl (TC.skip_ (TX.then_ (TC.seq_ (TC.block (TC.seq_ (TC.region ?_)))))))))
     refine TL.mv ?_
     refine TL.as_ ?_
     refine TL.end_ (TX.then_ (TC.seq_ ?_))
     refine TC.fact (p := ∃ g, R110 = some ⟨g, 0, none⟩) (fun w1 hw => rowA hw (k := 3) rfl (by omega)) ?_
     rintro ⟨g_R110, rfl⟩
     refine TC.fact (p := ∃ g, R112 = some ⟨g, 0, none⟩) (fun w1 hw => rowA hw (k := 2) rfl (by omega)) ?_
     rintro ⟨g_R112, rfl⟩
     refine TC.held (ls := #[Ff,Ff,Ff,Ff,Ff,Ff,Ff,Ff,Ff,Ff,Ff,Ff,Ff,Ff,Ff,Ff,Ff,Ff,Ff,Ff,Ff,Ff,Ff,Ff,Ff]) (Pm wn ([.row (.slice (some ⟨g_R112, 0, none⟩) tr110.length rc112) 32 3 tr110.length (flat Trc.cells tr110), .row (.slice (some ⟨g_R110, 0, none⟩) tr110.length rc110) 32 3 tr110.length (flat Trc.cells tr110), .row (.slice (some ⟨g44, 0, none⟩) 3 3) 26 1 3 (flat sgc [(⟨Axs, cxs, xs⟩ : Sg Rs), ⟨A1, c1, raw⟩, ⟨Ash, csh, sh⟩]), .row (.slice Ash sh.length csh) 47 17 sh.length (flat Rs.cells sh), .abs wn.heap.size (fun w => Cod w wn.heap.size), .row (.slice Axs xs.length cxs) 47 17 xs.length (flat Rs.cells xs)] ++ mpsP [])) (by kernel_rfl) rfl rfl (fun w hw => hw.drawn _) ?_
     refine TH.tk (listed' := #[Tt,Ff,Ff,Ff,Ff,Ff,Ff,Ff,Ff,Ff,Ff,Ff,Ff,Ff,Ff,Ff,Ff,Ff,Ff,Ff,Ff,Ff,Ff,Ff,Ff]) 0 rfl rfl rfl (gives_move rfl rfl) (fun w1 hw => hw.sel (.cons _ (.cons _ (.cons_cons _ (.cons_cons _ (.cons_cons _ (.cons_cons _ (.cons_cons _ (.cons_cons _ (List.Sublist.refl _)))))))))) ?_
     refine TH.tk (listed' := #[Tt,Tt,Ff,Ff,Ff,Ff,Ff,Ff,Ff,Ff,Ff,Ff,Ff,Ff,Ff,Ff,Ff,Ff,Ff,Ff,Ff,Ff,Ff,Ff,Ff]) 1 rfl rfl rfl (gives_move rfl rfl) (fun w1 hw => hw.sel (.cons _ (.cons _ (.cons_cons _ (.cons_cons _ (.cons_cons _ (.cons_cons _ (.cons_cons _ (.cons_cons _ (List.Sublist.refl _)))))))))) ?_
     have hi133 : q < tr110.length := by omega
     obtain ⟨x133, hx133⟩ : ∃ x133, tr110[q]? = some x133 := ⟨_, List.getElem?_eq_getElem hi133⟩
     refine TH.tk (listed' := #[Tt,Tt,Tt,Ff,Ff,Ff,Ff,Ff,Ff,Ff,Ff,Ff,Ff,Ff,Ff,Ff,Ff,Ff,Ff,Ff,Ff,Ff,Ff,Ff,Ff]) 2 rfl rfl rfl (gives_at (v := .pointer (some ⟨g_R110, 0 + q * 3, none⟩)) rfl rfl rfl (fun w => at_el Tryz.underlying73 prssz32 rfl _ _ q (by omega) rfl w)) (fun w1 hw => hw.sel (.cons _ (.cons _ (.cons_cons _ (.cons_cons _ (.cons_cons _ (.cons_cons _ (.cons_cons _ (.cons_cons _ (List.Sublist.refl _)))))))))) ?_
     refine TH.tk (listed' := #[Tt,Tt,Tt,Tt,Ff,Ff,Ff,Ff,Ff,Ff,Ff,Ff,Ff,Ff,Ff,Ff,Ff,Ff,Ff,Ff,Ff,Ff,Ff,Ff,Ff]) 3 rfl rfl rfl (gives_loadR (off := 0 + q * 3) rfl rfl pcpag32 prssz32 (trc_cel.len x133) (fun w1 hw j9 u9 h9 => flat_row trc_cel hw (q := 1) rfl hx133 j9 u9 h9)) (fun w1 hw => hw.sel (.cons _ (.cons _ (.cons_cons _ (.cons_cons _ (.cons_cons _ (.cons_cons _ (.cons_cons _ (.cons_cons _ (List.Sublist.refl _)))))))))) ?_
     refine TH.tk (listed' := #[Tt,Tt,Tt,Tt,Tt,Ff,Ff,Ff,Ff,Ff,Ff,Ff,Ff,Ff,Ff,Ff,Ff,Ff,Ff,Ff,Ff,Ff,Ff,Ff,Ff]) 4 rfl rfl rfl (gives_move rfl rfl) (fun w1 hw => hw.sel (.cons _ (.cons _ (.cons_cons _ (.cons_cons _ (.cons_cons _ (.cons_cons _ (.cons_cons _ (.cons_cons _ (List.Sublist.refl _)))))))))) ?_
     refine TH.tk (listed' := #[Tt,Tt,Tt,Tt,Tt,Tt,Ff,Ff,Ff,Ff,Ff,Ff,Ff,Ff,Ff,Ff,Ff,Ff,Ff,Ff,Ff,Ff,Ff,Ff,Ff]) 5 rfl rfl rfl (gives_move rfl rfl) (fun w1 hw => hw.sel (.cons _ (.cons _ (.cons_cons _ (.cons_cons _ (.cons_cons _ (.cons_cons _ (.cons_cons _ (.cons_cons _ (List.Sublist.refl _)))))))))) ?_
     have hi137 : q < tr110.length := by omega
     obtain ⟨x137, hx137⟩ : ∃ x137, tr110[q]? = some x137 := ⟨_, List.getElem?_eq_getElem hi137⟩
     refine TH.tk (listed' := #[Tt,Tt,Tt,Tt,Tt,Tt,Tt,Ff,Ff,Ff,Ff,Ff,Ff,Ff,Ff,Ff,Ff,Ff,Ff,Ff,Ff,Ff,Ff,Ff,Ff]) 6 rfl rfl rfl (gives_at (v := .pointer (some ⟨g_R112, 0 + q * 3, none⟩)) rfl rfl rfl (fun w => at_el Tryz.underlying73 prssz32 rfl _ _ q (by omega) rfl w)) (fun w1 hw => hw.sel (.cons _ (.cons _ (.cons_cons _ (.cons_cons _ (.cons_cons _ (.cons_cons _ (.cons_cons _ (.cons_cons _ (List.Sublist.refl _)))))))))) ?_
     refine TH.tk (listed' := #[Tt,Tt,Tt,Tt,Tt,Tt,Tt,Tt,Ff,Ff,Ff,Ff,Ff,Ff,Ff,Ff,Ff,Ff,Ff,Ff,Ff,Ff,Ff,Ff,Ff]) 7 rfl rfl rfl (gives_loadR (off := 0 + q * 3) rfl rfl pcpag32 prssz32 (trc_cel.len x137) (fun w1 hw j9 u9 h9 => flat_row trc_cel hw (q := 0) rfl hx137 j9 u9 h9)) (fun w1 hw => hw.sel (.cons _ (.cons _ (.cons_cons _ (.cons_cons _ (.cons_cons _ (.cons_cons _ (.cons_cons _ (.cons_cons _ (List.Sublist.refl _)))))))))) ?_
     refine TH.tk (listed' := #[Tt,Tt,Tt,Tt,Tt,Tt,Tt,Tt,Tt,Ff,Ff,Ff,Ff,Ff,Ff,Ff,Ff,Ff,Ff,Ff,Ff,Ff,Ff,Ff,Ff]) 8 rfl rfl rfl (gives_bin2 (v := .bool false) rfl rfl rfl (fun w => trc_neq_is (x := x133) (y := x137) (t := false) (by rw [show x133 = x137 by rw [hx133] at hx137; exact Option.some.inj hx137]; simp) _ _ w)) (fun w1 hw => hw.sel (.cons _ (.cons _ (.cons_cons _ (.cons_cons _ (.cons_cons _ (.cons_cons _ (.cons_cons _ (.cons_cons _ (List.Sublist.refl _)))))))))) ?_
     refine TH.tk (listed' := #[Tt,Tt,Tt,Tt,Tt,Tt,Tt,Tt,Tt,Tt,Ff,Ff,Ff,Ff,Ff,Ff,Ff,Ff,Ff,Ff,Ff,Ff,Ff,Ff,Ff]) 9 rfl rfl rfl (gives_move rfl rfl) (fun w1 hw => hw.sel (.cons _ (.cons _ (.cons_cons _ (.cons_cons _ (.cons_cons _ (.cons_cons _ (.cons_cons _ (.cons_cons _ (List.Sublist.refl _)))))))))) ?_
     refine TH.takeG (listed' := #[Tt,Tt,Tt,Tt,Tt,Tt,Tt,Tt,Tt,Tt,Tt,Ff,Ff,Ff,Ff,Ff,Ff,Ff,Ff,Ff,Ff,Ff,Ff,Ff,Ff]) 10 rfl (by kernel_rfl) (by kernel_rfl) (by kernel_rfl) rfl rfl rfl rfl rfl rfl (gives_move rfl rfl) (fun w1 hw => hw.sel (.cons _ (.cons _ (.cons_cons _ (.cons_cons _ (.cons_cons _ (.cons_cons _ (.cons_cons _ (.cons_cons _ (List.Sublist.refl _)))))))))) ?_
     refine TH.takeG (listed' := #[Tt,Tt,Tt,Tt,Tt,Tt,Tt,Tt,Tt,Tt,Tt,Tt,Ff,Ff,Ff,Ff,Ff,Ff,Ff,Ff,Ff,Ff,Ff,Ff,Ff]) 11 rfl (by kernel_rfl) (by kernel_rfl) (by kernel_rfl) rfl rfl rfl rfl rfl rfl (gives_move rfl rfl) (fun w1 hw => hw.sel (.cons _ (.cons _ (.cons_cons _ (.cons_cons _ (.cons_cons _ (.cons_cons _ (.cons_cons _ (.cons_cons _ (List.Sublist.refl _)))))))))) ?_
     refine TH.takeG (listed' := #[Tt,Tt,Tt,Tt,Tt,Tt,Tt,Tt,Tt,Tt,Tt,Tt,Tt,Ff,Ff,Ff,Ff,Ff,Ff,Ff,Ff,Ff,Ff,Ff,Ff]) 12 rfl (by kernel_rfl) (by kernel_rfl) (by kernel_rfl) rfl rfl rfl rfl rfl rfl (gives_move rfl rfl) (fun w1 hw => hw.sel (.cons _ (.cons _ (.cons_cons _ (.cons_cons _ (.cons_cons _ (.cons_cons _ (.cons_cons _ (.cons_cons _ (List.Sublist.refl _)))))))))) ?_
     refine TH.takeG (listed' := #[Tt,Tt,Tt,Tt,Tt,Tt,Tt,Tt,Tt,Tt,Tt,Tt,Tt,Tt,Ff,Ff,Ff,Ff,Ff,Ff,Ff,Ff,Ff,Ff,Ff]) 13 rfl (by kernel_rfl) (by kernel_rfl) (by kernel_rfl) rfl rfl rfl rfl rfl rfl (gives_at (v := .pointer (some ⟨g_R110, 0 + q * 3, none⟩)) rfl rfl rfl (fun w => at_el Tryz.underlying73 prssz32 rfl _ _ q (by omega) rfl w)) (fun w1 hw => hw.sel (.cons _ (.cons _ (.cons_cons _ (.cons_cons _ (.cons_cons _ (.cons_cons _ (.cons_cons _ (.cons_cons _ (List.Sublist.refl _)))))))))) ?_
     refine TH.takeG (listed' := #[Tt,Tt,Tt,Tt,Tt,Tt,Tt,Tt,Tt,Tt,Tt,Tt,Tt,Tt,Tt,Ff,Ff,Ff,Ff,Ff,Ff,Ff,Ff,Ff,Ff]) 14 rfl (by kernel_rfl) (by kernel_rfl) (by kernel_rfl) rfl rfl rfl rfl rfl rfl (gives_loadR (off := 0 + q * 3) rfl rfl pcpag32 prssz32 (trc_cel.len x133) (fun w1 hw j9 u9 h9 => flat_row trc_cel hw (q := 1) rfl hx133 j9 u9 h9)) (fun w1 hw => hw.sel (.cons _ (.cons _ (.cons_cons _ (.cons_cons _ (.cons_cons _ (.cons_cons _ (.cons_cons _ (.cons_cons _ (List.Sublist.refl _)))))))))) ?_
     refine TH.takeG (listed' := #[Tt,Tt,Tt,Tt,Tt,Tt,Tt,Tt,Tt,Tt,Tt,Tt,Tt,Tt,Tt,Ff,Tt,Ff,Ff,Ff,Ff,Ff,Ff,Ff,Ff]) 16 rfl (by kernel_rfl) (by kernel_rfl) (by kernel_rfl) rfl rfl rfl rfl rfl rfl (gives_move rfl rfl) (fun w1 hw => hw.sel (.cons _ (.cons _ (.cons_cons _ (.cons_cons _ (.cons_cons _ (.cons_cons _ (.cons_cons _ (.cons_cons _ (List.Sublist.refl _)))))))))) ?_
     refine TH.takeG (listed' := #[Tt,Tt,Tt,Tt,Tt,Tt,Tt,Tt,Tt,Tt,Tt,Tt,Tt,Tt,Tt,Ff,Tt,Tt,Ff,Ff,Ff,Ff,Ff,Ff,Ff]) 17 rfl (by kernel_rfl) (by kernel_rfl) (by kernel_rfl) rfl rfl rfl rfl rfl rfl (gives_move rfl rfl) (fun w1 hw => hw.sel (.cons _ (.cons _ (.cons_cons _ (.cons_cons _ (.cons_cons _ (.cons_cons _ (.cons_cons _ (.cons_cons _ (List.Sublist.refl _)))))))))) ?_
     refine TH.takeG (listed' := #[Tt,Tt,Tt,Tt,Tt,Tt,Tt,Tt,Tt,Tt,Tt,Tt,Tt,Tt,Tt,Ff,Tt,Tt,Tt,Ff,Ff,Ff,Ff,Ff,Ff]) 18 rfl (by kernel_rfl) (by kernel_rfl) (by kernel_rfl) rfl rfl rfl rfl rfl rfl (gives_move rfl rfl) (fun w1 hw => hw.sel (.cons _ (.cons _ (.cons_cons _ (.cons_cons _ (.cons_cons _ (.cons_cons _ (.cons_cons _ (.cons_cons _ (List.Sublist.refl _)))))))))) ?_
     refine TH.takeG (listed' := #[Tt,Tt,Tt,Tt,Tt,Tt,Tt,Tt,Tt,Tt,Tt,Tt,Tt,Tt,Tt,Ff,Tt,Tt,Tt,Tt,Ff,Ff,Ff,Ff,Ff]) 19 rfl (by kernel_rfl) (by kernel_rfl) (by kernel_rfl) rfl rfl rfl rfl rfl rfl (gives_at (v := .pointer (some ⟨g_R110, 0 + q * 3, none⟩)) rfl rfl rfl (fun w => at_el Tryz.underlying73 prssz32 rfl _ _ q (by omega) rfl w)) (fun w1 hw => hw.sel (.cons _ (.cons _ (.cons_cons _ (.cons_cons _ (.cons_cons _ (.cons_cons _ (.cons_cons _ (.cons_cons _ (List.Sublist.refl _)))))))))) ?_
     refine TH.takeG (listed' := #[Tt,Tt,Tt,Tt,Tt,Tt,Tt,Tt,Tt,Tt,Tt,Tt,Tt,Tt,Tt,Ff,Tt,Tt,Tt,Tt,Tt,Ff,Ff,Ff,Ff]) 20 rfl (by kernel_rfl) (by kernel_rfl) (by kernel_rfl) rfl rfl rfl rfl rfl rfl (gives_loadR (off := 0 + q * 3) rfl rfl pcpag32 prssz32 (trc_cel.len x133) (fun w1 hw j9 u9 h9 => flat_row trc_cel hw (q := 1) rfl hx133 j9 u9 h9)) (fun w1 hw => hw.sel (.cons _ (.cons _ (.cons_cons _ (.cons_cons _ (.cons_cons _ (.cons_cons _ (.cons_cons _ (.cons_cons _ (List.Sublist.refl _)))))))))) ?_
     refine TH.only' (listed' := #[Tt,Tt,Tt,Tt,Tt,Tt,Tt,Tt,Tt,Tt,Tt,Tt,Tt,Tt,Tt,Tt,Tt,Tt,Tt,Tt,Tt,Ff,Ff,Ff,Ff]) 15 rfl (by kernel_rfl) rfl ?_
     refine TL.gu ?_
     refine TL.pcallPm (α := {y : (Option Addr × Nat) × List Rs // IsOf x48.l x133 y.2 ∧ y.2.length ≤ y.1.2 ∧ y.1.2 ≤ maxLen}) (fun x => .slice x.1.1.1 x.1.2.length x.1.1.2) (fun x => [.row (.slice x.1.1.1 x.1.2.length x.1.1.2) 47 17 x.1.2.length (flat Rs.cells x.1.2)]) rfl rfl rfl rfl rfl Tryz.func42 plrnm42 plrbd42 (fun w1 hw => of_any x48.A x48.c x48.l x133 w1 (x48f.1 w1 (hw.sel (.cons _ (.cons _ (.cons _ (.cons _ (.cons_cons _ (.cons_cons _ (.cons_cons _ (.cons_cons _ (List.Sublist.refl _))))))))))) (by omega) x48f.2.1) ?_
     rintro ⟨⟨⟨R146, rc146⟩, oa146⟩, hP146, hR1461, hR1462⟩
     dsimp only [List.cons_append, List.nil_append]
     dsimp only at hP146 hR1461 hR1462 ⊢
     have hln146 := hP146.len
     refine TL.end_ ?_
     refine TX.held (fun w1 hw => hw.sel (.cons _ (.cons _ (.cons _ (.cons_cons _ (.cons_cons _ (.cons_cons _ (.cons_cons _ (.cons_cons _ (.cons_cons _ (List.Sublist.refl _))))))))))) ?_
     refine TH.only' (listed' := #[Tt,Tt,Tt,Tt,Tt,Tt,Tt,Tt,Tt,Tt,Tt,Tt,Tt,Tt,Tt,Tt,Tt,Tt,Tt,Tt,Tt,Tt,Ff,Ff,Ff]) 21 rfl (by kernel_rfl) rfl ?_
     refine TL.gu ?_
     refine TL.pcallPm (α := {y : (Option Addr × Nat) × List Rs // IsOf x48.l x133 y.2 ∧ y.2.length ≤ y.1.2 ∧ y.1.2 ≤ maxLen}) (fun x => .slice x.1.1.1 x.1.2.length x.1.1.2) (fun x => [.row (.slice x.1.1.1 x.1.2.length x.1.1.2) 47 17 x.1.2.length (flat Rs.cells x.1.2)]) rfl rfl rfl rfl rfl Tryz.func43 plrnm43 plrbd43 (fun w1 hw => rof_any x48.A x48.c x48.l x133 w1 (x48f.1 w1 (hw.sel (.cons _ (.cons _ (.cons _ (.cons _ (.cons _ (.cons_cons _ (.cons_cons _ (.cons_cons _ (.cons_cons _ (List.Sublist.refl _)))))))))))) (by omega) x48f.2.1) ?_
     rintro ⟨⟨⟨R152, rc152⟩, oa152⟩, hP152, hR1521, hR1522⟩
     dsimp only [List.cons_append, List.nil_append]
     dsimp only at hP152 hR1521 hR1522 ⊢
     have hln152 := hP152.len
     obtain rfl : oa146 = oa152 := IsOf.eq hP146 hP152
     refine TL.end_ ?_
     refine TX.held (fun w1 hw => hw.sel (.cons _ (.cons _ (.cons _ (.cons _ (.cons_cons _ (.cons_cons _ (.cons_cons _ (.cons_cons _ (.cons_cons _ (.cons_cons _ (List.Sublist.refl _)))))))))))) ?_
     refine TH.only' (listed' := #[Tt,Tt,Tt,Tt,Tt,Tt,Tt,Tt,Tt,Tt,Tt,Tt,Tt,Tt,Tt,Tt,Tt,Tt,Tt,Tt,Tt,Tt,Tt,Ff,Ff]) 22 rfl (by kernel_rfl) rfl ?_
     refine TL.gu ?_
     refine TL.pcall1 (r := .bool true) rfl rfl rfl rfl rfl Tryz.func39 plrnm39 plrbd39 (fun w1 hw => (by have h9 := sameRs_any R146 rc146 oa146 R152 rc152 oa146 w1 (pm_rd hw (k := 1) rfl) (pm_rd hw (k := 0) rfl) (by omega); rw [decide_eq_true rfl] at h9; exact h9)) ?_
     refine TL.end_ ?_
     refine TX.held (fun w1 hw => hw.sel (.cons _ (.cons _ (.cons _ (.cons _ (.cons_cons _ (.cons_cons _ (.cons_cons _ (.cons_cons _ (.cons_cons _ (.cons_cons _ (List.Sublist.refl _)))))))))))) ?_
     refine TH.takeG (listed' := #[Tt,Tt,Tt,Tt,Tt,Tt,Tt,Tt,Tt,Tt,Tt,Tt,Tt,Tt,Tt,Tt,Tt,Tt,Tt,Tt,Tt,Tt,Tt,Tt,Ff]) 23 rfl (by kernel_rfl) (by kernel_rfl) (by kernel_rfl) rfl rfl rfl rfl rfl rfl (gives_boolnot rfl rfl) (fun w1 hw => hw.sel (.cons _ (.cons _ (.cons _ (.cons _ (.cons_cons _ (.cons_cons _ (.cons_cons _ (.cons_cons _ (.cons_cons _ (.cons_cons _ (List.Sublist.refl _)))))))))))) ?_
     refine TH.tk (listed' := #[Tt,Tt,Tt,Tt,Tt,Tt,Tt,Tt,Tt,Tt,Tt,Tt,Tt,Tt,Tt,Tt,Tt,Tt,Tt,Tt,Tt,Tt,Tt,Tt,Tt]) 24 rfl rfl rfl (gives_pick rfl rfl rfl) (fun w1 hw => hw.sel (.cons _ (.cons _ (.cons _ (.cons _ (.cons_cons _ (.cons_cons _ (.cons_cons _ (.cons_cons _ (.cons_cons _ (.cons_cons _ (List.Sublist.refl _)))))))))))) ?_
     refine TH.done (by kernel_rfl) ?_
     refine TX.then_ (TC.condF rfl (TC.skip_ (TX.in_normal (TX.then_ (TC.region ?_)))))
     refine TL.val rfl rfl rfl (gives_bin rfl rfl rfl (fun w => bin_add_ (r := ((q + 1 : Nat) : Int)) (by simp only [IntKind.wrap_i64]; omega) w)) ?_
     refine TL.mv ?_
     refine TL.end_ ?_
     exact TX.round (⟨q + 1, by omega⟩) (by show tr110.length - (q + 1) < tr110.length - q; omega) ⟨rfl, rfl, rfl, rfl, rfl, rfl, rfl, rfl, rfl, rfl, rfl, rfl, rfl, trivial⟩ (fun w1 hw => hw.sel (.cons _ (.cons _ (.cons_cons _ (.cons_cons _ (.cons_cons _ (.cons_cons _ (.cons_cons _ (.cons_cons _ (.cons_cons _ (.cons_cons _ (List.Sublist.refl _))))))))))))
    ·have q129 := of_decide_eq_false h129
     refine TL.end_ (TX.then_ (TC.seq_ (TC.condF rfl (TC.exit_ (TX.then_exit (TX.then_exit (TX.in_same (TX.then_ (TC.seq_ (TC.seq_ ?_))))))))))
     refine TC.held (ls := #[Ff,Ff,Ff,Ff,Ff,Ff,Ff]) (Pm wn ([.row (.slice (some ⟨g44, 0, none⟩) 3 3) 26 1 3 (flat sgc [(⟨Axs, cxs, xs⟩ : Sg Rs), ⟨A1, c1, raw⟩, ⟨Ash, csh, sh⟩]), .row (.slice Ash sh.length csh) 47 17 sh.length (flat Rs.cells sh), .abs wn.heap.size (fun w => Cod w wn.heap.size), .row (.slice Axs xs.length cxs) 47 17 xs.length (flat Rs.cells xs)] ++ mpsP [])) (by kernel_rfl) rfl rfl (fun w hw => hw.drawn _) ?_
     refine TH.tk (listed' := #[Tt,Ff,Ff,Ff,Ff,Ff,Ff]) 0 rfl rfl rfl (gives_loadR (off := 0) rfl rfl pofag67 prssz67 (idn_cel.len u) (fun w1 hw j9 u9 h9 => (hw.bel.cell hl6).trans (hb6 j9 u9 h9))) (fun w1 hw => hw.sel (.cons _ (.cons _ (.cons _ (.cons _ (.cons_cons _ (.cons_cons _ (.cons_cons _ (.cons_cons _ (List.Sublist.refl _)))))))))) ?_
     refine TH.tk (listed' := #[Tt,Tt,Ff,Ff,Ff,Ff,Ff]) 1 rfl rfl rfl (gives_move rfl rfl) (fun w1 hw => hw.sel (.cons _ (.cons _ (.cons _ (.cons _ (.cons_cons _ (.cons_cons _ (.cons_cons _ (.cons_cons _ (List.Sublist.refl _)))))))))) ?_
     refine TH.tk (listed' := #[Tt,Tt,Tt,Ff,Ff,Ff,Ff]) 2 rfl rfl rfl (gives_move rfl rfl) (fun w1 hw => hw.sel (.cons _ (.cons _ (.cons _ (.cons _ (.cons_cons _ (.cons_cons _ (.cons_cons _ (.cons_cons _ (List.Sublist.refl _)))))))))) ?_
     refine TH.tk (listed' := #[Tt,Tt,Tt,Ff,Ff,Ff,Tt]) 6 rfl rfl rfl (gives_move rfl rfl) (fun w1 hw => hw.sel (.cons _ (.cons _ (.cons _ (.cons _ (.cons_cons _ (.cons_cons _ (.cons_cons _ (.cons_cons _ (List.Sublist.refl _)))))))))) ?_
     refine TH.only' (listed' := #[Tt,Tt,Tt,Tt,Ff,Ff,Tt]) 3 rfl (by kernel_rfl) rfl ?_
     refine TL.call (α := Idn) (r := fun q9 => .agg (q9.cells).toArray) (I' := fun q9 => Pm wn ([.abs wn.heap.size (fun w => Cod w wn.heap.size), .row (.slice R116 o114.length rc116) 47 17 o114.length (flat Rs.cells o114), .row (.slice R114 o114.length rc114) 47 17 o114.length (flat Rs.cells o114), .row (.slice R112 tr110.length rc112) 32 3 tr110.length (flat Trc.cells tr110), .row (.slice R110 tr110.length rc110) 32 3 tr110.length (flat Trc.cells tr110), .row (.slice (some ⟨g44, 0, none⟩) 3 3) 26 1 3 (flat sgc [(⟨Axs, cxs, xs⟩ : Sg Rs), ⟨A1, c1, raw⟩, ⟨Ash, csh, sh⟩]), .row (.slice Ash sh.length csh) 47 17 sh.length (flat Rs.cells sh), .row (.slice Axs xs.length cxs) 47 17 xs.length (flat Rs.cells xs)] ++ mpsP [])) rfl rfl rfl rfl rfl Tryz.func44 plrnm44 plrbd44 (fun w1 hw => id_fr wn ([.row (.slice R116 o114.length rc116) 47 17 o114.length (flat Rs.cells o114), .row (.slice R114 o114.length rc114) 47 17 o114.length (flat Rs.cells o114), .row (.slice R112 tr110.length rc112) 32 3 tr110.length (flat Trc.cells tr110), .row (.slice R110 tr110.length rc110) 32 3 tr110.length (flat Trc.cells tr110), .row (.slice (some ⟨g44, 0, none⟩) 3 3) 26 1 3 (flat sgc [(⟨Axs, cxs, xs⟩ : Sg Rs), ⟨A1, c1, raw⟩, ⟨Ash, csh, sh⟩]), .row (.slice Ash sh.length csh) 47 17 sh.length (flat Rs.cells sh), .row (.slice Axs xs.length cxs) 47 17 xs.length (flat Rs.cells xs)] ++ mpsP []) wn.heap.size x48.A x48.c x48.l (fun w1 hw => x48f.1 w1 ((show Pm wn ([.row (.slice (some ⟨g44, 0, none⟩) 3 3) 26 1 3 (flat sgc [(⟨Axs, cxs, xs⟩ : Sg Rs), ⟨A1, c1, raw⟩, ⟨Ash, csh, sh⟩]), .row (.slice Ash sh.length csh) 47 17 sh.length (flat Rs.cells sh), .abs wn.heap.size (fun w => Cod w wn.heap.size), .row (.slice Axs xs.length cxs) 47 17 xs.length (flat Rs.cells xs)] ++ mpsP []) w1 from hw.pickT 8 [5, 6, 0, 7] (by decide) (by decide) rfl rfl))) (by omega) w1 ((show Pm wn ([.abs wn.heap.size (fun w => Cod w wn.heap.size), .row (.slice R116 o114.length rc116) 47 17 o114.length (flat Rs.cells o114), .row (.slice R114 o114.length rc114) 47 17 o114.length (flat Rs.cells o114), .row (.slice R112 tr110.length rc112) 32 3 tr110.length (flat Trc.cells tr110), .row (.slice R110 tr110.length rc110) 32 3 tr110.length (flat Trc.cells tr110), .row (.slice (some ⟨g44, 0, none⟩) 3 3) 26 1 3 (flat sgc [(⟨Axs, cxs, xs⟩ : Sg Rs), ⟨A1, c1, raw⟩, ⟨Ash, csh, sh⟩]), .row (.slice Ash sh.length csh) 47 17 sh.length (flat Rs.cells sh), .row (.slice Axs xs.length cxs) 47 17 xs.length (flat Rs.cells xs)] ++ mpsP []) w1 from hw.pickT 8 [6, 0, 1, 2, 3, 4, 5, 7] (by decide) (by decide) rfl rfl))) ?_
     rintro iu
     refine TL.end_ ?_
     refine TX.held (fun w1 hw => (show Pm wn ([.row (.slice (some ⟨g44, 0, none⟩) 3 3) 26 1 3 (flat sgc [(⟨Axs, cxs, xs⟩ : Sg Rs), ⟨A1, c1, raw⟩, ⟨Ash, csh, sh⟩]), .row (.slice Ash sh.length csh) 47 17 sh.length (flat Rs.cells sh), .abs wn.heap.size (fun w => Cod w wn.heap.size), .row (.slice Axs xs.length cxs) 47 17 xs.length (flat Rs.cells xs)] ++ mpsP []) w1 from hw.pickT 8 [5, 6, 0, 7] (by decide) (by decide) rfl rfl)) ?_
     refine TH.only' (listed' := #[Tt,Tt,Tt,Tt,Tt,Ff,Tt]) 4 rfl (by kernel_rfl) rfl ?_
     refine TL.prowS (e := 67) (size := 3) (cs := flat Idn.cells [u, iu]) rfl rfl rfl rfl rfl (fun w => plrbs79_2_74873 _ _ _ _ _ _ w) (by decide) rfl (fun g161 => ?_)
     refine TL.end_ ?_
     refine TX.held (fun w1 hw => (show Pm wn ([.row (.slice (some ⟨g44, 0, none⟩) 3 3) 26 1 3 (flat sgc [(⟨Axs, cxs, xs⟩ : Sg Rs), ⟨A1, c1, raw⟩, ⟨Ash, csh, sh⟩]), .row (.slice Ash sh.length csh) 47 17 sh.length (flat Rs.cells sh), .abs wn.heap.size (fun w => Cod w wn.heap.size), .row (.slice Axs xs.length cxs) 47 17 xs.length (flat Rs.cells xs)] ++ mpsP []) w1 from hw.pickT 9 [6, 7, 1, 8] (by decide) (by decide) rfl rfl)) ?_
     refine TH.tk (listed' := #[Tt,Tt,Tt,Tt,Tt,Tt,Tt]) 5 rfl rfl rfl (gives_len rfl Tryz.underlying79 rfl) (fun w1 hw => (show Pm wn ([.row (.slice (some ⟨g44, 0, none⟩) 3 3) 26 1 3 (flat sgc [(⟨Axs, cxs, xs⟩ : Sg Rs), ⟨A1, c1, raw⟩, ⟨Ash, csh, sh⟩]), .row (.slice Ash sh.length csh) 47 17 sh.length (flat Rs.cells sh), .abs wn.heap.size (fun w => Cod w wn.heap.size), .row (.slice Axs xs.length cxs) 47 17 xs.length (flat Rs.cells xs)] ++ mpsP []) w1 from hw.pickT 9 [6, 7, 1, 8] (by decide) (by decide) rfl rfl)) ?_
     refine TH.done (by kernel_rfl) ?_
     refine TX.then_ (TC.block ?_)
     refine TC.loop_ (α := {q : Nat // q ≤ 2}) (fun y => [(6, .pointer (some ⟨g6, 0, none⟩)), (7, .pointer (some ⟨g7, 0, none⟩)), (8, .bool false), (9, .pointer (some ⟨wn.heap.size, 0, none⟩)), (12, .slice x48.A x48.l.length x48.c), (44, .slice (some ⟨g44, 0, none⟩) 3 3), (45, .int .i64 3), (46, .int .i64 ((i : Nat) : Int)), (161, .slice (some ⟨g161, 0, none⟩) 2 2), (162, .int .i64 2), (163, .int .i64 ((y.1 : Nat) : Int))]) (fun y => Pm wn ([.row (.slice (some ⟨g161, 0, none⟩) 2 2) 67 3 2 (flat Idn.cells [u, iu]), .abs wn.heap.size (fun w => Cod w wn.heap.size), .row (.slice R116 o114.length rc116) 47 17 o114.length (flat Rs.cells o114), .row (.slice R114 o114.length rc114) 47 17 o114.length (flat Rs.cells o114), .row (.slice R112 tr110.length rc112) 32 3 tr110.length (flat Trc.cells tr110), .row (.slice R110 tr110.length rc110) 32 3 tr110.length (flat Trc.cells tr110), .row (.slice (some ⟨g44, 0, none⟩) 3 3) 26 1 3 (flat sgc [(⟨Axs, cxs, xs⟩ : Sg Rs), ⟨A1, c1, raw⟩, ⟨Ash, csh, sh⟩]), .row (.slice Ash sh.length csh) 47 17 sh.length (flat Rs.cells sh), .row (.slice Axs xs.length cxs) 47 17 xs.length (flat Rs.cells xs)] ++ mpsP [])) (fun y => 2 - y.1) (⟨0, Nat.zero_le _⟩) ⟨rfl, rfl, rfl, rfl, rfl, rfl, rfl, rfl, rfl, rfl, rfl, trivial⟩ (fun w1 hw => hw) ?_
     rintro ⟨q, hq⟩
     try dsimp only at hq ⊢
     refine TC.seq_ (TC.region ?_)
     refine TL.vsplit rfl rfl rfl (gives_bin rfl rfl rfl (fun w => bin_lss w)) (fun h164 => ?_) (fun h164 => ?_)
     ·have q164 := of_decide_eq_true h164
      refine TL.end_ (TX.then_ (TC.seq_ (TC.condT rfl (TC.skip_ (TX.then_ (TC.seq_ (TC.block (TC.seq_ (TC.region ?_)))))))))
      have hi165 : q < ([u, iu]).length := by show q < 2; omega
      obtain ⟨x165, hx165⟩ : ∃ x165, ([u, iu])[q]? = some x165 := ⟨_, List.getElem?_eq_getElem hi165⟩
      refine TL.val rfl rfl rfl (gives_at (v := .pointer (some ⟨g161, 0 + q * 3, none⟩)) rfl rfl rfl (fun w => at_el Tryz.underlying79 prssz67 rfl _ _ q (by omega) rfl w)) ?_
      refine TL.val rfl rfl rfl (gives_loadR (off := 0 + q * 3) rfl rfl pofag67 prssz67 (idn_cel.len x165) (fun w1 hw j9 u9 h9 => flat_row idn_cel hw (q := 0) rfl hx165 j9 u9 h9)) ?_
      refine TL.pnew rfl rfl rfl (exec_alloc (cs := [.int .i64 0, .int .i64 0, .int .i64 0]) rfl prszv67 rfl) (fun g20 => ?_)
      refine TL.pstore (k := 0) (vs := x165.cells) rfl rfl rfl rfl rfl rfl rfl prssz67 (idn_cel.one _) (by show 3 ≤ 3; decide) (L' := ([.blk g20 67 x165.cells, .row (.slice (some ⟨g161, 0, none⟩) 2 2) 67 3 2 (flat Idn.cells [u, iu]), .abs wn.heap.size (fun w => Cod w wn.heap.size), .row (.slice R116 o114.length rc116) 47 17 o114.length (flat Rs.cells o114), .row (.slice R114 o114.length rc114) 47 17 o114.length (flat Rs.cells o114), .row (.slice R112 tr110.length rc112) 32 3 tr110.length (flat Trc.cells tr110), .row (.slice R110 tr110.length rc110) 32 3 tr110.length (flat Trc.cells tr110), .row (.slice (some ⟨g44, 0, none⟩) 3 3) 26 1 3 (flat sgc [(⟨Axs, cxs, xs⟩ : Sg Rs), ⟨A1, c1, raw⟩, ⟨Ash, csh, sh⟩]), .row (.slice Ash sh.length csh) 47 17 sh.length (flat Rs.cells sh), .row (.slice Axs xs.length cxs) 47 17 xs.length (flat Rs.cells xs)] ++ mpsP [])) rfl ?_
      refine TL.end_ (TX.then_ (TC.seq_ (TC.region ?_)))
      refine TL.mv ?_
      refine TL.val rfl rfl rfl (pm_loadV (k := 0) (i := 0) (n := 3) (v := .agg (x165.cells).toArray) rfl rfl pofag67 prssz67 rfl (by show 3 ≤ 3; decide) rfl) ?_
      refine TL.pcall1 (r := .tuple #[.agg ((findS x48.l x165).1.cells).toArray, .bool ((findS x48.l x165).2)]) rfl rfl rfl rfl rfl Tryz.func45 plrnm45 plrbd45 (fun w1 hw => find_any x48.A x48.c x48.l x165 w1 (x48f.1 w1 ((show Pm wn ([.row (.slice (some ⟨g44, 0, none⟩) 3 3) 26 1 3 (flat sgc [(⟨Axs, cxs, xs⟩ : Sg Rs), ⟨A1, c1, raw⟩, ⟨Ash, csh, sh⟩]), .row (.slice Ash sh.length csh) 47 17 sh.length (flat Rs.cells sh), .abs wn.heap.size (fun w => Cod w wn.heap.size), .row (.slice Axs xs.length cxs) 47 17 xs.length (flat Rs.cells xs)] ++ mpsP []) w1 from hw.pickT 10 [7, 8, 2, 9] (by decide) (by decide) rfl rfl))) (by omega)) ?_
      refine TL.mv ?_
      refine TL.ex ?_
      refine TL.ex ?_
      refine TL.pnew rfl rfl rfl (exec_alloc (cs := [.int .i64 0, .int .i64 0, .int .i64 0, .int .i64 0, .int .u32 0, .int .i64 0, .int .i64 0, .int .i64 0, .bool false, .bool false, .int .i64 0, .int .u32 0, .int .i64 0, .int .i64 0, .int .i64 0, .int .i64 0, .int .i64 0]) rfl pcpzv47 rfl) (fun g21 => ?_)
      refine TL.pstore (k := 0) (vs := (findS x48.l x165).1.cells) rfl rfl rfl rfl rfl rfl rfl prssz47 (rs_cel.one _) (by show 17 ≤ 17; decide) (L' := ([.blk g21 47 (findS x48.l x165).1.cells, .blk g20 67 x165.cells, .row (.slice (some ⟨g161, 0, none⟩) 2 2) 67 3 2 (flat Idn.cells [u, iu]), .abs wn.heap.size (fun w => Cod w wn.heap.size), .row (.slice R116 o114.length rc116) 47 17 o114.length (flat Rs.cells o114), .row (.slice R114 o114.length rc114) 47 17 o114.length (flat Rs.cells o114), .row (.slice R112 tr110.length rc112) 32 3 tr110.length (flat Trc.cells tr110), .row (.slice R110 tr110.length rc110) 32 3 tr110.length (flat Trc.cells tr110), .row (.slice (some ⟨g44, 0, none⟩) 3 3) 26 1 3 (flat sgc [(⟨Axs, cxs, xs⟩ : Sg Rs), ⟨A1, c1, raw⟩, ⟨Ash, csh, sh⟩]), .row (.slice Ash sh.length csh) 47 17 sh.length (flat Rs.cells sh), .row (.slice Axs xs.length cxs) 47 17 xs.length (flat Rs.cells xs)] ++ mpsP [])) rfl ?_
      refine TL.as_ ?_
      refine TL.end_ (TX.then_ (TC.seq_ (TC.region ?_)))
      refine TL.mv ?_
      refine TL.val rfl rfl rfl (pm_loadV (k := 1) (i := 0) (n := 3) (v := .agg (x165.cells).toArray) rfl rfl pofag67 prssz67 rfl (by show 3 ≤ 3; decide) rfl) ?_
      refine TL.pcall1 (r := .tuple #[.agg ((findS x48.l x165).1.cells).toArray, .bool ((findS x48.l x165).2)]) rfl rfl rfl rfl rfl Tryz.func46 plrnm46 plrbd46 (fun w1 hw => ((rfind_any x48.A x48.c x48.l x165 w1 (x48f.1 w1 ((show Pm wn ([.row (.slice (some ⟨g44, 0, none⟩) 3 3) 26 1 3 (flat sgc [(⟨Axs, cxs, xs⟩ : Sg Rs), ⟨A1, c1, raw⟩, ⟨Ash, csh, sh⟩]), .row (.slice Ash sh.length csh) 47 17 sh.length (flat Rs.cells sh), .abs wn.heap.size (fun w => Cod w wn.heap.size), .row (.slice Axs xs.length cxs) 47 17 xs.length (flat Rs.cells xs)] ++ mpsP []) w1 from hw.pickT 11 [8, 9, 3, 10] (by decide) (by decide) rfl rfl))) (by omega) x48f.2.1).mono fun e w2 ⟨q9, h1, h2⟩ => ⟨by obtain ⟨o9, ho9, hf9⟩ := q9.2; rw [h1, ← hf9, find_eq ho9], h2⟩)) ?_
      refine TL.mv ?_
      refine TL.ex ?_
      refine TL.ex ?_
      refine TL.pnew rfl rfl rfl (exec_alloc (cs := [.int .i64 0, .int .i64 0, .int .i64 0, .int .i64 0, .int .u32 0, .int .i64 0, .int .i64 0, .int .i64 0, .bool false, .bool false, .int .i64 0, .int .u32 0, .int .i64 0, .int .i64 0, .int .i64 0, .int .i64 0, .int .i64 0]) rfl pcpzv47 rfl) (fun g23 => ?_)
      refine TL.pstore (k := 0) (vs := (findS x48.l x165).1.cells) rfl rfl rfl rfl rfl rfl rfl prssz47 (rs_cel.one _) (by show 17 ≤ 17; decide) (L' := ([.blk g23 47 (findS x48.l x165).1.cells, .blk g21 47 (findS x48.l x165).1.cells, .blk g20 67 x165.cells, .row (.slice (some ⟨g161, 0, none⟩) 2 2) 67 3 2 (flat Idn.cells [u, iu]), .abs wn.heap.size (fun w => Cod w wn.heap.size), .row (.slice R116 o114.length rc116) 47 17 o114.length (flat Rs.cells o114), .row (.slice R114 o114.length rc114) 47 17 o114.length (flat Rs.cells o114), .row (.slice R112 tr110.length rc112) 32 3 tr110.length (flat Trc.cells tr110), .row (.slice R110 tr110.length rc110) 32 3 tr110.length (flat Trc.cells tr110), .row (.slice (some ⟨g44, 0, none⟩) 3 3) 26 1 3 (flat sgc [(⟨Axs, cxs, xs⟩ : Sg Rs), ⟨A1, c1, raw⟩, ⟨Ash, csh, sh⟩]), .row (.slice Ash sh.length csh) 47 17 sh.length (flat Rs.cells sh), .row (.slice Axs xs.length cxs) 47 17 xs.length (flat Rs.cells xs)] ++ mpsP [])) rfl ?_
      refine TL.as_ ?_
      refine TL.end_ (TX.then_ (TC.seq_ (TC.region ?_)))
      refine TL.val rfl rfl rfl (pm_loadV (k := 1) (i := 0) (n := 17) (v := .agg ((findS x48.l x165).1.cells).toArray) rfl rfl prsag47 prssz47 rfl (by show 17 ≤ 17; decide) rfl) ?_
      refine TL.val rfl rfl rfl (pm_loadV (k := 0) (i := 0) (n := 17) (v := .agg ((findS x48.l x165).1.cells).toArray) rfl rfl prsag47 prssz47 rfl (by show 17 ≤ 17; decide) rfl) ?_
      refine TL.vsplit rfl rfl rfl (gives_bin2 rfl rfl rfl (fun w => rs_neqd ((findS x48.l x165).1) ((findS x48.l x165).1) _ _ w)) (fun h181 => ?_) (fun h181 => ?_)
      ·have q181 := of_decide_eq_true h181
       exfalso; exact q181 rfl
      ·have q181 := of_decide_eq_false h181
       iterate 6 (first | refine TL.gu ?_ | refine TL.mv ?_)
       refine TL.val rfl rfl rfl (gives_bin2 (v := .bool false) rfl rfl rfl (fun w => (bin_neb Tryz.underlying4 _ _ w).trans (by simp))) ?_
       refine TL.pk ?_
       refine TL.end_ (TX.then_ (TC.condF rfl (TC.skip_ (TX.in_normal (TX.then_ (TC.region ?_))))))
       refine TL.val rfl rfl rfl (gives_bin rfl rfl rfl (fun w => bin_add_ (r := ((q + 1 : Nat) : Int)) (by simp only [IntKind.wrap_i64]; omega) w)) ?_
       refine TL.mv ?_
       refine TL.end_ ?_
       exact TX.round (⟨q + 1, by omega⟩) (by show 2 - (q + 1) < 2 - q; omega) ⟨rfl, rfl, rfl, rfl, rfl, rfl, rfl, rfl, rfl, rfl, rfl, trivial⟩ (fun w1 hw => hw.sel (.cons _ (.cons _ (.cons _ (.cons_cons _ (.cons_cons _ (.cons_cons _ (.cons_cons _ (.cons_cons _ (.cons_cons _ (.cons_cons _ (.cons_cons _ (.cons_cons _ (List.Sublist.refl _))))))))))))))
     ·have q164 := of_decide_eq_false h164
      refine TL.end_ (TX.then_ (TC.seq_ (TC.condF rfl (TC.exit_ (TX.then_exit (TX.then_exit (TX.in_same (TX.then_ (TC.seq_ ?_)))))))))
      refine TC.held (ls := #[Ff,Ff,Ff,Ff,Ff,Ff,Ff,Ff]) (Pm wn ([.abs wn.heap.size (fun w => Cod w wn.heap.size), .row (.slice (some ⟨g44, 0, none⟩) 3 3) 26 1 3 (flat sgc [(⟨Axs, cxs, xs⟩ : Sg Rs), ⟨A1, c1, raw⟩, ⟨Ash, csh, sh⟩]), .row (.slice Ash sh.length csh) 47 17 sh.length (flat Rs.cells sh), .row (.slice Axs xs.length cxs) 47 17 xs.length (flat Rs.cells xs)] ++ mpsP [])) (by kernel_rfl) rfl rfl (fun w hw => hw.drawn _) ?_
      refine TH.tk (listed' := #[Tt,Ff,Ff,Ff,Ff,Ff,Ff,Ff]) 0 rfl rfl rfl (gives_move rfl rfl) (fun w1 hw => hw.sel (.cons _ (.cons_cons _ (.cons _ (.cons _ (.cons _ (.cons _ (.cons_cons _ (.cons_cons _ (.cons_cons _ (List.Sublist.refl _))))))))))) ?_
      refine TH.tk (listed' := #[Tt,Tt,Ff,Ff,Ff,Ff,Ff,Ff]) 1 rfl rfl rfl (gives_loadR (off := 0) rfl rfl pcpag32 prssz32 (trc_cel.len t) (fun w1 hw j9 u9 h9 => (hw.bel.cell hl7).trans (hb7 j9 u9 h9))) (fun w1 hw => hw.sel (.cons _ (.cons_cons _ (.cons _ (.cons _ (.cons _ (.cons _ (.cons_cons _ (.cons_cons _ (.cons_cons _ (List.Sublist.refl _))))))))))) ?_
      refine TH.tk (listed' := #[Tt,Tt,Ff,Tt,Ff,Ff,Ff,Ff]) 3 rfl rfl rfl (gives_move rfl rfl) (fun w1 hw => hw.sel (.cons _ (.cons_cons _ (.cons _ (.cons _ (.cons _ (.cons _ (.cons_cons _ (.cons_cons _ (.cons_cons _ (List.Sublist.refl _))))))))))) ?_
      refine TH.tk (listed' := #[Tt,Tt,Ff,Tt,Tt,Ff,Ff,Ff]) 4 rfl rfl rfl (gives_loadR (off := 0) rfl rfl pcpag32 prssz32 (trc_cel.len t) (fun w1 hw j9 u9 h9 => (hw.bel.cell hl7).trans (hb7 j9 u9 h9))) (fun w1 hw => hw.sel (.cons _ (.cons_cons _ (.cons _ (.cons _ (.cons _ (.cons _ (.cons_cons _ (.cons_cons _ (.cons_cons _ (List.Sublist.refl _))))))))))) ?_
      refine TH.only' (listed' := #[Tt,Tt,Tt,Tt,Tt,Ff,Ff,Ff]) 2 rfl (by kernel_rfl) rfl ?_
      refine TL.pcallPm (α := {y : (Option Addr × Nat) × List Rs // IsOf x48.l t y.2 ∧ y.2.length ≤ y.1.2 ∧ y.1.2 ≤ maxLen}) (fun x => .slice x.1.1.1 x.1.2.length x.1.1.2) (fun x => [.row (.slice x.1.1.1 x.1.2.length x.1.1.2) 47 17 x.1.2.length (flat Rs.cells x.1.2)]) rfl rfl rfl rfl rfl Tryz.func42 plrnm42 plrbd42 (fun w1 hw => of_any x48.A x48.c x48.l t w1 (x48f.1 w1 ((show Pm wn ([.row (.slice (some ⟨g44, 0, none⟩) 3 3) 26 1 3 (flat sgc [(⟨Axs, cxs, xs⟩ : Sg Rs), ⟨A1, c1, raw⟩, ⟨Ash, csh, sh⟩]), .row (.slice Ash sh.length csh) 47 17 sh.length (flat Rs.cells sh), .abs wn.heap.size (fun w => Cod w wn.heap.size), .row (.slice Axs xs.length cxs) 47 17 xs.length (flat Rs.cells xs)] ++ mpsP []) w1 from hw.pickT 9 [6, 7, 1, 8] (by decide) (by decide) rfl rfl))) (by omega) x48f.2.1) ?_
      rintro ⟨⟨⟨R190, rc190⟩, ob190⟩, hP190, hR1901, hR1902⟩
      dsimp only [List.cons_append, List.nil_append]
      dsimp only at hP190 hR1901 hR1902 ⊢
      have hln190 := hP190.len
      refine TL.end_ ?_
      refine TX.held (fun w1 hw => hw.sel (.cons _ (.cons _ (.cons_cons _ (.cons _ (.cons _ (.cons _ (.cons _ (.cons_cons _ (.cons_cons _ (.cons_cons _ (List.Sublist.refl _)))))))))))) ?_
      refine TH.only' (listed' := #[Tt,Tt,Tt,Tt,Tt,Tt,Ff,Ff]) 5 rfl (by kernel_rfl) rfl ?_
      refine TL.pcallPm (α := {y : (Option Addr × Nat) × List Rs // IsOf x48.l t y.2 ∧ y.2.length ≤ y.1.2 ∧ y.1.2 ≤ maxLen}) (fun x => .slice x.1.1.1 x.1.2.length x.1.1.2) (fun x => [.row (.slice x.1.1.1 x.1.2.length x.1.1.2) 47 17 x.1.2.length (flat Rs.cells x.1.2)]) rfl rfl rfl rfl rfl Tryz.func43 plrnm43 plrbd43 (fun w1 hw => rof_any x48.A x48.c x48.l t w1 (x48f.1 w1 ((show Pm wn ([.row (.slice (some ⟨g44, 0, none⟩) 3 3) 26 1 3 (flat sgc [(⟨Axs, cxs, xs⟩ : Sg Rs), ⟨A1, c1, raw⟩, ⟨Ash, csh, sh⟩]), .row (.slice Ash sh.length csh) 47 17 sh.length (flat Rs.cells sh), .abs wn.heap.size (fun w => Cod w wn.heap.size), .row (.slice Axs xs.length cxs) 47 17 xs.length (flat Rs.cells xs)] ++ mpsP []) w1 from hw.pickT 10 [7, 8, 2, 9] (by decide) (by decide) rfl rfl))) (by omega) x48f.2.1) ?_
      rintro ⟨⟨⟨R193, rc193⟩, ob193⟩, hP193, hR1931, hR1932⟩
      dsimp only [List.cons_append, List.nil_append]
      dsimp only at hP193 hR1931 hR1932 ⊢
      have hln193 := hP193.len
      obtain rfl : ob190 = ob193 := IsOf.eq hP190 hP193
      refine TL.end_ ?_
      refine TX.held (fun w1 hw => hw.sel (.cons _ (.cons _ (.cons _ (.cons_cons _ (.cons _ (.cons _ (.cons _ (.cons _ (.cons_cons _ (.cons_cons _ (.cons_cons _ (List.Sublist.refl _))))))))))))) ?_
      refine TH.only' (listed' := #[Tt,Tt,Tt,Tt,Tt,Tt,Tt,Ff]) 6 rfl (by kernel_rfl) rfl ?_
      refine TL.pcall1 (r := .bool true) rfl rfl rfl rfl rfl Tryz.func39 plrnm39 plrbd39 (fun w1 hw => (by have h9 := sameRs_any R190 rc190 ob190 R193 rc193 ob190 w1 (pm_rd hw (k := 1) rfl) (pm_rd hw (k := 0) rfl) (by omega); rw [decide_eq_true rfl] at h9; exact h9)) ?_
      refine TL.end_ ?_
      refine TX.held (fun w1 hw => hw.sel (.cons _ (.cons _ (.cons _ (.cons_cons _ (.cons _ (.cons _ (.cons _ (.cons _ (.cons_cons _ (.cons_cons _ (.cons_cons _ (List.Sublist.refl _))))))))))))) ?_
      refine TH.tk (listed' := #[Tt,Tt,Tt,Tt,Tt,Tt,Tt,Tt]) 7 rfl rfl rfl (gives_boolnot rfl rfl) (fun w1 hw => hw.sel (.cons _ (.cons _ (.cons _ (.cons_cons _ (.cons _ (.cons _ (.cons _ (.cons _ (.cons_cons _ (.cons_cons _ (.cons_cons _ (List.Sublist.refl _))))))))))))) ?_
      refine TH.done (by kernel_rfl) ?_
      refine TX.then_ (TC.condF rfl (TC.skip_ (TX.in_normal (TX.then_ (TC.region ?_)))))
      refine TL.val rfl rfl rfl (gives_bin rfl rfl rfl (fun w => bin_add_ (r := ((i + 1 : Nat) : Int)) (by simp only [IntKind.wrap_i64]; omega) w)) ?_
      refine TL.mv ?_
      refine TL.end_ ?_
      exact TX.round (⟨i + 1, by omega⟩) (by show 3 - (i + 1) < 3 - i; omega) ⟨rfl, rfl, rfl, rfl, rfl, rfl, rfl, trivial⟩ (fun w1 hw => (show Pm wn ([.row (.slice (some ⟨g44, 0, none⟩) 3 3) 26 1 3 (flat sgc [(⟨Axs, cxs, xs⟩ : Sg Rs), ⟨A1, c1, raw⟩, ⟨Ash, csh, sh⟩]), .row (.slice Ash sh.length csh) 47 17 sh.length (flat Rs.cells sh), .abs wn.heap.size (fun w => Cod w wn.heap.size), .row (.slice Axs xs.length cxs) 47 17 xs.length (flat Rs.cells xs)] ++ mpsP []) w1 from hw.pickT 11 [8, 9, 3, 10] (by decide) (by decide) rfl rfl))
  ·have q47 := of_decide_eq_false h47
   refine TL.end_ (TX.then_ (TC.seq_ (TC.condF rfl (TC.exit_ (TX.then_exit (TX.then_exit (TX.in_same (TX.then_ (TC.seq_ (TC.region ?_))))))))))
   refine TL.as_ ?_
   refine TL.end_ (TX.then_ (TC.ret_ ?_))
   exact ret_tmp Tryz.results8 rfl (fun w1 hw => ⟨rfl, hwb.trans (hw.bel.mono hwb.size)⟩)
open Go.ChangeShapes Go.WideShapes Go.RowKit
set_option linter.constructorNameAsVariable false
set_option maxRecDepth 20000
theorem cell_of_cells {w : World} {base n : Nat} {a : Addr} {cs : List Value} (h : w.cells? base a n = some cs) (j : Nat) (u : Value) (hu : cs[j]? = some u) : w.cell? (a.add j) = some u := by
 unfold World.cells? at h
 split at h
 ·have hl := mapM_some_length h
  have hj := (List.getElem?_eq_some_iff.1 hu).1
  rw [List.length_range] at hl
  have := mapM_some_get h j j (by rw [List.getElem?_range (by omega)])
  exact this.trans hu
 ·cases h
theorem pick_all {α : Type} {cc : α → List Value} {ok : α → Prop} {W : World} {a : Addr} {k n : Nat} (key : ∀ i, i < n → ∃ r : α, W.cells? 0 (a.add (i * k)) k = some (cc r) ∧ ok r) : ∀ m, m ≤ n → ∃ l : List α, l.length = m ∧ (∀ r ∈ l, ok r) ∧ ∀ i r, l[i]? = some r → W.cells? 0 (a.add (i * k)) k = some (cc r) := fun m => by
 induction m with
 | zero => exact fun _ => ⟨[], rfl, fun r hr => absurd hr List.not_mem_nil, fun i r hr => by simp at hr⟩
 | succ m ih =>
  intro hm
  obtain ⟨l, h1, h2, h3⟩ := ih (by omega)
  obtain ⟨r, h4, h5⟩ := key m (by omega)
  refine ⟨l ++ [r], by rw [List.length_append, h1]; rfl, fun q hq => (List.mem_append.1 hq).elim (h2 q) (fun h => by rw [List.mem_singleton] at h; subst h; exact h5), fun i q hq => ?_⟩
  rcases Nat.lt_or_ge i l.length with hi | hi
  ·rw [List.getElem?_append_left hi] at hq; exact h3 i q hq
  ·rw [List.getElem?_append_right hi] at hq
   obtain ⟨h6, h7⟩ := List.getElem?_eq_some_iff.1 hq
   simp only [List.length_singleton] at h6
   obtain rfl : i = m := by omega
   have h8 : r = q := by simpa [h1] using h7
   rw [← h8]; exact h4
theorem oc3 : Tryz.prog.cellsOf 3 = 1 := by kernel_rfl
theorem oc30 : Tryz.prog.cellsOf 30 = 1 := by kernel_rfl
theorem oc4 : Tryz.prog.cellsOf 4 = 1 := by kernel_rfl
theorem oc45 : Tryz.prog.cellsOf 45 = 6 := by kernel_rfl
theorem fieldsN6 {H : Type} {enc : TypeId × Value → H} {P : Program} {w : World} {base : Nat} {spare : Nat → Bool} {held : Bool} {t : TypeId} {f0 f1 f2 f3 f4 f5 : Field} {fuel : Nat} {cs : List Value} {x : DataW H × List MemPlace} (hs : P.underlying t = some (.struct #[f0, f1, f2, f3, f4, f5])) (h : DataW.trod enc P w base spare held fuel t cs = some x) : ∃ (n : Nat) (y0 y1 y2 y3 y4 y5 : DataW H × List MemPlace), cs.length = P.cellsOf t ∧ DataW.trod enc P w base spare held n f0.type ((cs.drop f0.offset).take (P.cellsOf f0.type)) = some y0 ∧ DataW.trod enc P w base spare held n f1.type ((cs.drop f1.offset).take (P.cellsOf f1.type)) = some y1 ∧ DataW.trod enc P w base spare held n f2.type ((cs.drop f2.offset).take (P.cellsOf f2.type)) = some y2 ∧ DataW.trod enc P w base spare held n f3.type ((cs.drop f3.offset).take (P.cellsOf f3.type)) = some y3 ∧ DataW.trod enc P w base spare held n f4.type ((cs.drop f4.offset).take (P.cellsOf f4.type)) = some y4 ∧ DataW.trod enc P w base spare held n f5.type ((cs.drop f5.offset).take (P.cellsOf f5.type)) = some y5 := by
 obtain ⟨xs, n, _, _, hl, hlen, hf⟩ := DataW.trod_struct hs h
 match xs, hlen with
 | [y0, y1, y2, y3, y4, y5], _ => exact ⟨n, y0, y1, y2, y3, y4, y5, hl, hf 0 f0 rfl, hf 1 f1 rfl, hf 2 f2 rfl, hf 3 f3 rfl, hf 4 f4 rfl, hf 5 f5 rfl⟩
theorem otr45 {H : Type} {enc : TypeId × Value → H} {W : World} {base : Nat} {spare : Nat → Bool} {held : Bool} {fuel : Nat} {c0 c1 c2 c3 c4 c5 : Value} {x : DataW H × List MemPlace} (h : DataW.trod enc Tryz.prog W base spare held fuel 45 [c0, c1, c2, c3, c4, c5] = some x) : ∃ (v0 : Int) (v1 : Int) (v2 : Int) (v3 : Int) (v4 : Int) (v5 : Int), (c0 = .int .u32 v0 ∧ c1 = .int .i64 v1 ∧ c2 = .int .i64 v2 ∧ c3 = .int .i64 v3 ∧ c4 = .int .i64 v4 ∧ c5 = .int .i64 v5) ∧ ((Lit.int .u32 v0).wf = true ∧ (Lit.int .i64 v1).wf = true ∧ (Lit.int .i64 v2).wf = true ∧ (Lit.int .i64 v3).wf = true ∧ (Lit.int .i64 v4).wf = true ∧ (Lit.int .i64 v5).wf = true) := by
 obtain ⟨n, y0, y1, y2, y3, y4, y5, hl, h0, h1, h2, h3, h4, h5⟩ := fieldsN6 Tryz.underlying45 h
 dsimp only at h0
 rw [oc30] at h0
 obtain ⟨x0, qx0, _, w0⟩ := DataW.trod_int (x := y0) Tryz.underlying30 h0
 have qx0 : [c0] = [Value.int .u32 x0] := qx0
 rw [List.cons.injEq] at qx0
 obtain ⟨rfl, _⟩ := qx0
 dsimp only at h1
 rw [oc3] at h1
 obtain ⟨x1, qx1, _, w1⟩ := DataW.trod_int (x := y1) Tryz.underlying3 h1
 have qx1 : [c1] = [Value.int .i64 x1] := qx1
 rw [List.cons.injEq] at qx1
 obtain ⟨rfl, _⟩ := qx1
 dsimp only at h2
 rw [oc3] at h2
 obtain ⟨x2, qx2, _, w2⟩ := DataW.trod_int (x := y2) Tryz.underlying3 h2
 have qx2 : [c2] = [Value.int .i64 x2] := qx2
 rw [List.cons.injEq] at qx2
 obtain ⟨rfl, _⟩ := qx2
 dsimp only at h3
 rw [oc3] at h3
 obtain ⟨x3, qx3, _, w3⟩ := DataW.trod_int (x := y3) Tryz.underlying3 h3
 have qx3 : [c3] = [Value.int .i64 x3] := qx3
 rw [List.cons.injEq] at qx3
 obtain ⟨rfl, _⟩ := qx3
 dsimp only at h4
 rw [oc3] at h4
 obtain ⟨x4, qx4, _, w4⟩ := DataW.trod_int (x := y4) Tryz.underlying3 h4
 have qx4 : [c4] = [Value.int .i64 x4] := qx4
 rw [List.cons.injEq] at qx4
 obtain ⟨rfl, _⟩ := qx4
 dsimp only at h5
 rw [oc3] at h5
 obtain ⟨x5, qx5, _, w5⟩ := DataW.trod_int (x := y5) Tryz.underlying3 h5
 have qx5 : [c5] = [Value.int .i64 x5] := qx5
 rw [List.cons.injEq] at qx5
 obtain ⟨rfl, _⟩ := qx5
 exact ⟨x0, x1, x2, x3, x4, x5, ⟨rfl, rfl, rfl, rfl, rfl, rfl⟩, ⟨w0, w1, w2, w3, w4, w5⟩⟩
theorem oc47 : Tryz.prog.cellsOf 47 = 17 := by kernel_rfl
theorem fieldsN12 {H : Type} {enc : TypeId × Value → H} {P : Program} {w : World} {base : Nat} {spare : Nat → Bool} {held : Bool} {t : TypeId} {f0 f1 f2 f3 f4 f5 f6 f7 f8 f9 f10 f11 : Field} {fuel : Nat} {cs : List Value} {x : DataW H × List MemPlace} (hs : P.underlying t = some (.struct #[f0, f1, f2, f3, f4, f5, f6, f7, f8, f9, f10, f11])) (h : DataW.trod enc P w base spare held fuel t cs = some x) : ∃ (n : Nat) (y0 y1 y2 y3 y4 y5 y6 y7 y8 y9 y10 y11 : DataW H × List MemPlace), cs.length = P.cellsOf t ∧ DataW.trod enc P w base spare held n f0.type ((cs.drop f0.offset).take (P.cellsOf f0.type)) = some y0 ∧ DataW.trod enc P w base spare held n f1.type ((cs.drop f1.offset).take (P.cellsOf f1.type)) = some y1 ∧ DataW.trod enc P w base spare held n f2.type ((cs.drop f2.offset).take (P.cellsOf f2.type)) = some y2 ∧ DataW.trod enc P w base spare held n f3.type ((cs.drop f3.offset).take (P.cellsOf f3.type)) = some y3 ∧ DataW.trod enc P w base spare held n f4.type ((cs.drop f4.offset).take (P.cellsOf f4.type)) = some y4 ∧ DataW.trod enc P w base spare held n f5.type ((cs.drop f5.offset).take (P.cellsOf f5.type)) = some y5 ∧ DataW.trod enc P w base spare held n f6.type ((cs.drop f6.offset).take (P.cellsOf f6.type)) = some y6 ∧ DataW.trod enc P w base spare held n f7.type ((cs.drop f7.offset).take (P.cellsOf f7.type)) = some y7 ∧ DataW.trod enc P w base spare held n f8.type ((cs.drop f8.offset).take (P.cellsOf f8.type)) = some y8 ∧ DataW.trod enc P w base spare held n f9.type ((cs.drop f9.offset).take (P.cellsOf f9.type)) = some y9 ∧ DataW.trod enc P w base spare held n f10.type ((cs.drop f10.offset).take (P.cellsOf f10.type)) = some y10 ∧ DataW.trod enc P w base spare held n f11.type ((cs.drop f11.offset).take (P.cellsOf f11.type)) = some y11 := by
 obtain ⟨xs, n, _, _, hl, hlen, hf⟩ := DataW.trod_struct hs h
 match xs, hlen with
 | [y0, y1, y2, y3, y4, y5, y6, y7, y8, y9, y10, y11], _ => exact ⟨n, y0, y1, y2, y3, y4, y5, y6, y7, y8, y9, y10, y11, hl, hf 0 f0 rfl, hf 1 f1 rfl, hf 2 f2 rfl, hf 3 f3 rfl, hf 4 f4 rfl, hf 5 f5 rfl, hf 6 f6 rfl, hf 7 f7 rfl, hf 8 f8 rfl, hf 9 f9 rfl, hf 10 f10 rfl, hf 11 f11 rfl⟩
theorem otr47 {H : Type} {enc : TypeId × Value → H} {W : World} {base : Nat} {spare : Nat → Bool} {held : Bool} {fuel : Nat} {c0 c1 c2 c3 c4 c5 c6 c7 c8 c9 c10 c11 c12 c13 c14 c15 c16 : Value} {x : DataW H × List MemPlace} (h : DataW.trod enc Tryz.prog W base spare held fuel 47 [c0, c1, c2, c3, c4, c5, c6, c7, c8, c9, c10, c11, c12, c13, c14, c15, c16] = some x) : ∃ (v0 : Int) (v1 : Int) (v2 : Int) (v3 : Int) (v4 : Int) (v5 : Int) (v6 : Int) (v7 : Int) (v8 : Bool) (v9 : Bool) (v10 : Int) (v11 : Int) (v12 : Int) (v13 : Int) (v14 : Int) (v15 : Int) (v16 : Int), (c0 = .int .i64 v0 ∧ c1 = .int .i64 v1 ∧ c2 = .int .i64 v2 ∧ c3 = .int .i64 v3 ∧ c4 = .int .u32 v4 ∧ c5 = .int .i64 v5 ∧ c6 = .int .i64 v6 ∧ c7 = .int .i64 v7 ∧ c8 = .bool v8 ∧ c9 = .bool v9 ∧ c10 = .int .i64 v10 ∧ c11 = .int .u32 v11 ∧ c12 = .int .i64 v12 ∧ c13 = .int .i64 v13 ∧ c14 = .int .i64 v14 ∧ c15 = .int .i64 v15 ∧ c16 = .int .i64 v16) ∧ ((Lit.int .i64 v0).wf = true ∧ (Lit.int .i64 v1).wf = true ∧ (Lit.int .i64 v2).wf = true ∧ (Lit.int .i64 v3).wf = true ∧ (Lit.int .u32 v4).wf = true ∧ (Lit.int .i64 v5).wf = true ∧ (Lit.int .i64 v6).wf = true ∧ (Lit.int .i64 v7).wf = true ∧ (Lit.int .i64 v10).wf = true ∧ (Lit.int .u32 v11).wf = true ∧ (Lit.int .i64 v12).wf = true ∧ (Lit.int .i64 v13).wf = true ∧ (Lit.int .i64 v14).wf = true ∧ (Lit.int .i64 v15).wf = true ∧ (Lit.int .i64 v16).wf = true) := by
 obtain ⟨n, y0, y1, y2, y3, y4, y5, y6, y7, y8, y9, y10, y11, hl, h0, h1, h2, h3, h4, h5, h6, h7, h8, h9, h10, h11⟩ := fieldsN12 Tryz.underlying47 h
 dsimp only at h0
 rw [oc3] at h0
 obtain ⟨x0, qx0, _, w0⟩ := DataW.trod_int (x := y0) Tryz.underlying3 h0
 have qx0 : [c0] = [Value.int .i64 x0] := qx0
 rw [List.cons.injEq] at qx0
 obtain ⟨rfl, _⟩ := qx0
 dsimp only at h1
 rw [oc3] at h1
 obtain ⟨x1, qx1, _, w1⟩ := DataW.trod_int (x := y1) Tryz.underlying3 h1
 have qx1 : [c1] = [Value.int .i64 x1] := qx1
 rw [List.cons.injEq] at qx1
 obtain ⟨rfl, _⟩ := qx1
 dsimp only at h2
 rw [oc3] at h2
 obtain ⟨x2, qx2, _, w2⟩ := DataW.trod_int (x := y2) Tryz.underlying3 h2
 have qx2 : [c2] = [Value.int .i64 x2] := qx2
 rw [List.cons.injEq] at qx2
 obtain ⟨rfl, _⟩ := qx2
 dsimp only at h3
 rw [oc3] at h3
 obtain ⟨x3, qx3, _, w3⟩ := DataW.trod_int (x := y3) Tryz.underlying3 h3
 have qx3 : [c3] = [Value.int .i64 x3] := qx3
 rw [List.cons.injEq] at qx3
 obtain ⟨rfl, _⟩ := qx3
 dsimp only at h4
 rw [oc30] at h4
 obtain ⟨x4, qx4, _, w4⟩ := DataW.trod_int (x := y4) Tryz.underlying30 h4
 have qx4 : [c4] = [Value.int .u32 x4] := qx4
 rw [List.cons.injEq] at qx4
 obtain ⟨rfl, _⟩ := qx4
 dsimp only at h5
 rw [oc3] at h5
 obtain ⟨x5, qx5, _, w5⟩ := DataW.trod_int (x := y5) Tryz.underlying3 h5
 have qx5 : [c5] = [Value.int .i64 x5] := qx5
 rw [List.cons.injEq] at qx5
 obtain ⟨rfl, _⟩ := qx5
 dsimp only at h6
 rw [oc3] at h6
 obtain ⟨x6, qx6, _, w6⟩ := DataW.trod_int (x := y6) Tryz.underlying3 h6
 have qx6 : [c6] = [Value.int .i64 x6] := qx6
 rw [List.cons.injEq] at qx6
 obtain ⟨rfl, _⟩ := qx6
 dsimp only at h7
 rw [oc3] at h7
 obtain ⟨x7, qx7, _, w7⟩ := DataW.trod_int (x := y7) Tryz.underlying3 h7
 have qx7 : [c7] = [Value.int .i64 x7] := qx7
 rw [List.cons.injEq] at qx7
 obtain ⟨rfl, _⟩ := qx7
 dsimp only at h8
 rw [oc4] at h8
 obtain ⟨x8, qx8, _⟩ := DataW.trod_bool (x := y8) Tryz.underlying4 h8
 have qx8 : [c8] = [Value.bool x8] := qx8
 rw [List.cons.injEq] at qx8
 obtain ⟨rfl, _⟩ := qx8
 dsimp only at h9
 rw [oc4] at h9
 obtain ⟨x9, qx9, _⟩ := DataW.trod_bool (x := y9) Tryz.underlying4 h9
 have qx9 : [c9] = [Value.bool x9] := qx9
 rw [List.cons.injEq] at qx9
 obtain ⟨rfl, _⟩ := qx9
 dsimp only at h10
 rw [oc3] at h10
 obtain ⟨x10, qx10, _, w10⟩ := DataW.trod_int (x := y10) Tryz.underlying3 h10
 have qx10 : [c10] = [Value.int .i64 x10] := qx10
 rw [List.cons.injEq] at qx10
 obtain ⟨rfl, _⟩ := qx10
 dsimp only at h11
 rw [oc45] at h11
 obtain ⟨x11_0, x11_1, x11_2, x11_3, x11_4, x11_5, ⟨rfl, rfl, rfl, rfl, rfl, rfl⟩, w11⟩ := otr45 (x := y11) (c0 := c11) (c1 := c12) (c2 := c13) (c3 := c14) (c4 := c15) (c5 := c16) h11
 exact ⟨x0, x1, x2, x3, x4, x5, x6, x7, x8, x9, x10, x11_0, x11_1, x11_2, x11_3, x11_4, x11_5, ⟨rfl, rfl, rfl, rfl, rfl, rfl, rfl, rfl, rfl, rfl, rfl, rfl, rfl, rfl, rfl, rfl, rfl⟩, ⟨w0, w1, w2, w3, w4, w5, w6, w7, w10, w11.1, w11.2.1, w11.2.2.1, w11.2.2.2.1, w11.2.2.2.2.1, w11.2.2.2.2.2⟩⟩
def Rs.Wf (r : Rs) : Prop := (Lit.int .i64 r.v).wf = true ∧ (Lit.int .i64 r.run).wf = true ∧ (Lit.int .i64 r.num).wf = true ∧ (Lit.int .i64 r.at_).wf = true ∧ (Lit.int .u32 r.dst).wf = true ∧ (Lit.int .i64 r.proto).wf = true ∧ (Lit.int .i64 r.flow).wf = true ∧ (Lit.int .i64 r.ttl).wf = true ∧ (Lit.int .i64 r.back).wf = true ∧ (Lit.int .u32 r.src).wf = true ∧ (Lit.int .i64 r.kind).wf = true ∧ (Lit.int .i64 r.code).wf = true ∧ (Lit.int .i64 r.left).wf = true ∧ (Lit.int .i64 r.id).wf = true ∧ (Lit.int .i64 r.quo).wf = true
theorem res_trod {H : Type} {enc : TypeId × Value → H} {W : World} {base : Nat} {spare : Nat → Bool} {held : Bool} {fuel : Nat} {cs : List Value} {x : DataW H × List MemPlace} (h : DataW.trod enc Tryz.prog W base spare held fuel 47 cs = some x) : ∃ r : Rs, cs = r.cells ∧ r.Wf := by
 have hl : cs.length = 17 := by
  obtain ⟨n, _, _, _, _, _, _, _, _, _, _, _, _, hl, _⟩ := fieldsN12 Tryz.underlying47 h
  rw [oc47] at hl; exact hl
 match cs, hl with
 | [c0, c1, c2, c3, c4, c5, c6, c7, c8, c9, c10, c11, c12, c13, c14, c15, c16], _ =>
  obtain ⟨v0, v1, v2, v3, v4, v5, v6, v7, v8, v9, v10, v11, v12, v13, v14, v15, v16, ⟨rfl, rfl, rfl, rfl, rfl, rfl, rfl, rfl, rfl, rfl, rfl, rfl, rfl, rfl, rfl, rfl, rfl⟩, hw⟩ := otr47 h
  exact ⟨⟨v0, v1, v2, v3, v4, v5, v6, v7, v8, v9, v10, v11, v12, v13, v14, v15, v16⟩, rfl, hw⟩
theorem open_resslice {H : Type} {enc : TypeId × Value → H} {W : World} {b0 : Nat} {v : Value} {d : DataW H} {p : List MemPlace} (hok : Value.okWide Tryz.prog W .any b0 26 v) (h : DataW.Trod enc Tryz.prog W 0 (fun _ => true) true 26 v d p) :
  ∃ A c l, v = .slice A l.length c ∧ l.length ≤ c ∧ c ≤ maxLen ∧ Reads W W.heap.size 17 A l.length (flat Rs.cells l) ∧ ∀ r ∈ l, r.Wf := by
 obtain ⟨a0, len0, cap0, rfl⟩ := okWide_slice Tryz.underlying26 hok
 obtain ⟨fuel, hf⟩ := h
 rcases DataW.trod_slice Tryz.underlying26 hf with ⟨hcs, _⟩ | ⟨a, len, cap, elems, rest, n, _, hcs, _, _, hlc, hcm, hel, hget, _, _⟩
 ·simp [Value.cells] at hcs
  obtain ⟨rfl, rfl, rfl⟩ := hcs
  exact ⟨none, 0, [], rfl, Nat.le_refl _, Nat.zero_le _, ⟨rfl, fun h => absurd h (by decide)⟩, fun r hr => by cases hr⟩
 ·simp [Value.cells] at hcs
  obtain ⟨rfl, rfl, rfl⟩ := hcs
  have key : ∀ i, i < len0 → ∃ r : Rs, W.cells? 0 (a.add (i * 17)) 17 = some r.cells ∧ r.Wf := fun i hi => by
   have hi2 := hget i hi
   rw [oc47, List.getElem?_eq_getElem (by omega), Option.bind_eq_some_iff] at hi2
   obtain ⟨cs, h1, h2⟩ := hi2
   obtain ⟨r, rfl, ho⟩ := res_trod h2
   exact ⟨r, h1, ho⟩
  obtain ⟨l, h1, h2, h3⟩ := pick_all key len0 (Nat.le_refl _)
  subst h1
  refine ⟨some a, cap0, l, rfl, hlc, hcm, ⟨flat_len rs_cel l, fun hn => ⟨a, rfl, ?_, fun j u hu => ?_⟩⟩, h2⟩
  ·have h4 := cell_of_cells (h3 0 l[0] (List.getElem?_eq_getElem hn)) 0 _ rfl
   have := World.block_lt_of_cell? W _ h4
   rwa [block_of_add, block_of_add] at this
  ·have hj : j < l.length * 17 := by have := (List.getElem?_eq_some_iff.1 hu).1; rwa [flat_len rs_cel] at this
   have hi : j / 17 < l.length := by omega
   have h4 := flat_ix rs_cel (List.getElem?_eq_getElem hi) (j % 17) (by omega)
   rw [show j / 17 * 17 + j % 17 = j by omega, hu] at h4
   have h5 := cell_of_cells (h3 _ _ (List.getElem?_eq_getElem hi)) (j % 17) u h4.symm
   rw [Addr.add_add, show j / 17 * 17 + j % 17 = j by omega] at h5
   exact h5
theorem oc67 : Tryz.prog.cellsOf 67 = 3 := by kernel_rfl
theorem fieldsN3 {H : Type} {enc : TypeId × Value → H} {P : Program} {w : World} {base : Nat} {spare : Nat → Bool} {held : Bool} {t : TypeId} {f0 f1 f2 : Field} {fuel : Nat} {cs : List Value} {x : DataW H × List MemPlace} (hs : P.underlying t = some (.struct #[f0, f1, f2])) (h : DataW.trod enc P w base spare held fuel t cs = some x) : ∃ (n : Nat) (y0 y1 y2 : DataW H × List MemPlace), cs.length = P.cellsOf t ∧ DataW.trod enc P w base spare held n f0.type ((cs.drop f0.offset).take (P.cellsOf f0.type)) = some y0 ∧ DataW.trod enc P w base spare held n f1.type ((cs.drop f1.offset).take (P.cellsOf f1.type)) = some y1 ∧ DataW.trod enc P w base spare held n f2.type ((cs.drop f2.offset).take (P.cellsOf f2.type)) = some y2 := by
 obtain ⟨xs, n, _, _, hl, hlen, hf⟩ := DataW.trod_struct hs h
 match xs, hlen with
 | [y0, y1, y2], _ => exact ⟨n, y0, y1, y2, hl, hf 0 f0 rfl, hf 1 f1 rfl, hf 2 f2 rfl⟩
theorem otr67 {H : Type} {enc : TypeId × Value → H} {W : World} {base : Nat} {spare : Nat → Bool} {held : Bool} {fuel : Nat} {c0 c1 c2 : Value} {x : DataW H × List MemPlace} (h : DataW.trod enc Tryz.prog W base spare held fuel 67 [c0, c1, c2] = some x) : ∃ (v0 : Int) (v1 : Int) (v2 : Int), (c0 = .int .i64 v0 ∧ c1 = .int .i64 v1 ∧ c2 = .int .i64 v2) ∧ ((Lit.int .i64 v0).wf = true ∧ (Lit.int .i64 v1).wf = true ∧ (Lit.int .i64 v2).wf = true) := by
 obtain ⟨n, y0, y1, y2, hl, h0, h1, h2⟩ := fieldsN3 Tryz.underlying67 h
 dsimp only at h0
 rw [oc3] at h0
 obtain ⟨x0, qx0, _, w0⟩ := DataW.trod_int (x := y0) Tryz.underlying3 h0
 have qx0 : [c0] = [Value.int .i64 x0] := qx0
 rw [List.cons.injEq] at qx0
 obtain ⟨rfl, _⟩ := qx0
 dsimp only at h1
 rw [oc3] at h1
 obtain ⟨x1, qx1, _, w1⟩ := DataW.trod_int (x := y1) Tryz.underlying3 h1
 have qx1 : [c1] = [Value.int .i64 x1] := qx1
 rw [List.cons.injEq] at qx1
 obtain ⟨rfl, _⟩ := qx1
 dsimp only at h2
 rw [oc3] at h2
 obtain ⟨x2, qx2, _, w2⟩ := DataW.trod_int (x := y2) Tryz.underlying3 h2
 have qx2 : [c2] = [Value.int .i64 x2] := qx2
 rw [List.cons.injEq] at qx2
 obtain ⟨rfl, _⟩ := qx2
 exact ⟨x0, x1, x2, ⟨rfl, rfl, rfl⟩, ⟨w0, w1, w2⟩⟩
def Idn.Wf (r : Idn) : Prop := (Lit.int .i64 r.v).wf = true ∧ (Lit.int .i64 r.run).wf = true ∧ (Lit.int .i64 r.num).wf = true
theorem idn_trod {H : Type} {enc : TypeId × Value → H} {W : World} {base : Nat} {spare : Nat → Bool} {held : Bool} {fuel : Nat} {cs : List Value} {x : DataW H × List MemPlace} (h : DataW.trod enc Tryz.prog W base spare held fuel 67 cs = some x) : ∃ r : Idn, cs = r.cells ∧ r.Wf := by
 have hl : cs.length = 3 := by
  obtain ⟨n, _, _, _, hl, _⟩ := fieldsN3 Tryz.underlying67 h
  rw [oc67] at hl; exact hl
 match cs, hl with
 | [c0, c1, c2], _ =>
  obtain ⟨v0, v1, v2, ⟨rfl, rfl, rfl⟩, hw⟩ := otr67 h
  exact ⟨⟨v0, v1, v2⟩, rfl, hw⟩
theorem open_idn {H : Type} {enc : TypeId × Value → H} {W : World} {base : Nat} {spare : Nat → Bool} {held : Bool} {r : Reach} {b0 : Nat} {v : Value} {d : DataW H} {p : List MemPlace} (hv : Value.okWide Tryz.prog W r b0 67 v) (h : DataW.Trod enc Tryz.prog W base spare held 67 v d p) : ∃ x : Idn, v = .agg x.cells.toArray ∧ x.Wf := by
 obtain ⟨cs, rfl, hsz⟩ := okWide_struct Tryz.underlying67 hv
 obtain ⟨fuel, hf⟩ := h
 obtain ⟨x, hx, ho⟩ := idn_trod hf
 refine ⟨x, ?_, ho⟩
 have hx2 : cs.toList = x.cells := hx
 rw [← hx2]
theorem oc32 : Tryz.prog.cellsOf 32 = 3 := by kernel_rfl
theorem otr32 {H : Type} {enc : TypeId × Value → H} {W : World} {base : Nat} {spare : Nat → Bool} {held : Bool} {fuel : Nat} {c0 c1 c2 : Value} {x : DataW H × List MemPlace} (h : DataW.trod enc Tryz.prog W base spare held fuel 32 [c0, c1, c2] = some x) : ∃ (v0 : Int) (v1 : Int) (v2 : Int), (c0 = .int .i64 v0 ∧ c1 = .int .u32 v1 ∧ c2 = .int .i64 v2) ∧ ((Lit.int .i64 v0).wf = true ∧ (Lit.int .u32 v1).wf = true ∧ (Lit.int .i64 v2).wf = true) := by
 obtain ⟨n, y0, y1, y2, hl, h0, h1, h2⟩ := fieldsN3 Tryz.underlying32 h
 dsimp only at h0
 rw [oc3] at h0
 obtain ⟨x0, qx0, _, w0⟩ := DataW.trod_int (x := y0) Tryz.underlying3 h0
 have qx0 : [c0] = [Value.int .i64 x0] := qx0
 rw [List.cons.injEq] at qx0
 obtain ⟨rfl, _⟩ := qx0
 dsimp only at h1
 rw [oc30] at h1
 obtain ⟨x1, qx1, _, w1⟩ := DataW.trod_int (x := y1) Tryz.underlying30 h1
 have qx1 : [c1] = [Value.int .u32 x1] := qx1
 rw [List.cons.injEq] at qx1
 obtain ⟨rfl, _⟩ := qx1
 dsimp only at h2
 rw [oc3] at h2
 obtain ⟨x2, qx2, _, w2⟩ := DataW.trod_int (x := y2) Tryz.underlying3 h2
 have qx2 : [c2] = [Value.int .i64 x2] := qx2
 rw [List.cons.injEq] at qx2
 obtain ⟨rfl, _⟩ := qx2
 exact ⟨x0, x1, x2, ⟨rfl, rfl, rfl⟩, ⟨w0, w1, w2⟩⟩
def Trc.Wf (r : Trc) : Prop := (Lit.int .i64 r.v).wf = true ∧ (Lit.int .u32 r.dst).wf = true ∧ (Lit.int .i64 r.proto).wf = true
theorem trc_trod {H : Type} {enc : TypeId × Value → H} {W : World} {base : Nat} {spare : Nat → Bool} {held : Bool} {fuel : Nat} {cs : List Value} {x : DataW H × List MemPlace} (h : DataW.trod enc Tryz.prog W base spare held fuel 32 cs = some x) : ∃ r : Trc, cs = r.cells ∧ r.Wf := by
 have hl : cs.length = 3 := by
  obtain ⟨n, _, _, _, hl, _⟩ := fieldsN3 Tryz.underlying32 h
  rw [oc32] at hl; exact hl
 match cs, hl with
 | [c0, c1, c2], _ =>
  obtain ⟨v0, v1, v2, ⟨rfl, rfl, rfl⟩, hw⟩ := otr32 h
  exact ⟨⟨v0, v1, v2⟩, rfl, hw⟩
theorem open_trc {H : Type} {enc : TypeId × Value → H} {W : World} {base : Nat} {spare : Nat → Bool} {held : Bool} {r : Reach} {b0 : Nat} {v : Value} {d : DataW H} {p : List MemPlace} (hv : Value.okWide Tryz.prog W r b0 32 v) (h : DataW.Trod enc Tryz.prog W base spare held 32 v d p) : ∃ x : Trc, v = .agg x.cells.toArray ∧ x.Wf := by
 obtain ⟨cs, rfl, hsz⟩ := okWide_struct Tryz.underlying32 hv
 obtain ⟨fuel, hf⟩ := h
 obtain ⟨x, hx, ho⟩ := trc_trod hf
 refine ⟨x, ?_, ho⟩
 have hx2 : cs.toList = x.cells := hx
 rw [← hx2]
theorem Rs.Wf.ok {r : Rs} (h : r.Wf) : r.Ok := by
 unfold Rs.Wf at h
 have h1 := wf_u32 h.2.2.2.2.1
 have h2 := wf_u32 (x := r.src) (by obtain ⟨_, _, _, _, _, _, _, _, _, h9, _⟩ := h; exact h9)
 exact ⟨h1.1, h1.2, h2.1, h2.2⟩
end Go.Proofs.YtnejdeklnmkhbaaGreat
