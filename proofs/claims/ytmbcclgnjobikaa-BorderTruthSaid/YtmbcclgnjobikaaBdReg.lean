/-
  Registries (chapter 32): what a provider is, and the program's functions.
-/
import Derived.Test.YtmbcclgnjobikaaBdAddr
namespace Go.Proofs.Ytmbcclgnjobikaa
open Go.RowKit
set_option linter.unusedVariables false
set_option linter.unusedSimpArgs false
set_option maxRecDepth 20000
structure En where
  addr : Int
  len : Int
  prov : Int
  frm : Int
  to_ : Int
deriving DecidableEq
def En.cells (r : En) : List Value := [.int .u32 r.addr, .int .i64 r.len, .int .i64 r.prov, .int .i64 r.frm, .int .i64 r.to_]
theorem en_cel : Cel En.cells 5 := ⟨fun _ => rfl, fun r u hu => by
  simp only [En.cells, List.mem_cons, List.not_mem_nil, or_false] at hu
  rcases hu with rfl | rfl | rfl | rfl | rfl <;> rfl⟩

def En.zero : En := ⟨0, 0, 0, 0, 0⟩
def validE (e : En) : Bool := vldP e.addr e.len && decide (1 ≤ e.prov) && decide (e.prov ≤ 2147483647) && decide (0 ≤ e.frm) && decide (e.frm < e.to_) && decide (e.to_ ≤ 1125899906842624)
/-- two entries that must not stand one behind the other -/
def badP (b x : En) : Bool := decide (cmpP b.addr b.len x.addr x.len > 0) || (decide (cmpP b.addr b.len x.addr x.len = 0) && decide (x.frm < b.to_))
def okAt (es : List En) (i : Nat) : Bool := match es[i]? with
  | none => true
  | some x => validE x && (decide (i = 0) || match es[i - 1]? with
    | none => true
    | some b => !badP b x)
def validR (es : List En) : Bool := decide (es.length ≤ 1024) && (List.range es.length).all (okAt es)
theorem okAt_bad {es : List En} {i : Nat} {x : En} (hx : es[i]? = some x) (h : validE x = false) : okAt es i = false := by simp [okAt, hx, h]
theorem okAt_zero {es : List En} {x : En} {i : Nat} (hi : i = 0) (hx : es[i]? = some x) (h : validE x = true) : okAt es i = true := by subst hi; simp [okAt, hx, h]
theorem okAt_pair {es : List En} {x b : En} {i : Nat} {t : Bool} (hi : ¬ i = 0) (hx : es[i]? = some x) (hb : es[i - 1]? = some b) (h : validE x = true) (ht : badP b x = !t) : okAt es i = t := by simp [okAt, hx, hb, h, hi, ht]
theorem validR_true {es : List En} (hl : es.length ≤ 1024) (h : ∀ j, j < es.length → okAt es j = true) : validR es = true := by
  simp only [validR, Bool.and_eq_true, decide_eq_true_eq, List.all_eq_true, List.mem_range]
  exact ⟨hl, h⟩
theorem validR_false {es : List En} {i : Nat} (hi : i < es.length) (h : okAt es i = false) : validR es = false := by
  cases hv : validR es with
  | false => rfl
  | true =>
    simp only [validR, Bool.and_eq_true, decide_eq_true_eq, List.all_eq_true, List.mem_range] at hv
    rw [hv.2 i hi] at h; cases h
theorem validR_len {es : List En} (h : validR es = true) : es.length ≤ 1024 := by
  simp only [validR, Bool.and_eq_true, decide_eq_true_eq] at h
  exact h.1
/-- the entry that applies, so far -/
def fitsE (a t : Int) (p : En × Bool) (e : En) : Bool := decide (e.frm ≤ t) && decide (t < e.to_) && (!p.2 || decide (e.len > p.1.len)) && hasP e.addr e.len a
def stepL (a t : Int) (p : En × Bool) (e : En) : En × Bool := if fitsE a t p e then (e, true) else p
def lookR (es : List En) (a t : Int) : En × Bool := es.foldl (stepL a t) (En.zero, false)
theorem lookR_snoc {es : List En} {a t : Int} {i : Nat} {x : En} {p : En × Bool} (hx : es[i]? = some x) (hp : lookR (es.take i) a t = p) : lookR (es.take (i + 1)) a t = if fitsE a t p x then (x, true) else p := by
  unfold lookR at hp ⊢
  rw [List.take_add_one, hx, List.foldl_append, hp]
  rfl
def lookV (es : List En) (a t : Int) : En × Bool := if validR es then lookR es a t else (En.zero, false)
/-- the provider of an address at a time -/
def provR (es : List En) (a t : Int) : Int := (lookV es a t).1.prov
theorem brefld45_0 (g o : Nat) (w : World) : (Instr.fieldAt 45 (.pointer (some ⟨g, o, none⟩)) 0).run Try.prog w = .ok (.pointer (some ⟨g, o + 0, none⟩)) w := by kernel_rfl
theorem breag43 (w : World) : (isAgg 43).run Try.prog w = .ok true w := rfl
theorem bresz43 (w : World) : (sizeOf 43).run Try.prog w = .ok 2 w := rfl
theorem brenm58 : (Try.f58.name == "runtime.NumGoroutine") = false := by decide
theorem brebd58 : Try.f58.body.isNone = false := rfl
theorem brefld45_1 (g o : Nat) (w : World) : (Instr.fieldAt 45 (.pointer (some ⟨g, o, none⟩)) 1).run Try.prog w = .ok (.pointer (some ⟨g, o + 2, none⟩)) w := by kernel_rfl
theorem breag3 (w : World) : (isAgg 3).run Try.prog w = .ok false w := rfl
theorem brefld45_2 (g o : Nat) (w : World) : (Instr.fieldAt 45 (.pointer (some ⟨g, o, none⟩)) 2).run Try.prog w = .ok (.pointer (some ⟨g, o + 3, none⟩)) w := by kernel_rfl
theorem brefld45_3 (g o : Nat) (w : World) : (Instr.fieldAt 45 (.pointer (some ⟨g, o, none⟩)) 3).run Try.prog w = .ok (.pointer (some ⟨g, o + 4, none⟩)) w := by kernel_rfl
theorem brefld34_0 (g o : Nat) (w : World) : (Instr.fieldAt 34 (.pointer (some ⟨g, o, none⟩)) 0).run Try.prog w = .ok (.pointer (some ⟨g, o + 0, none⟩)) w := by kernel_rfl
theorem breag32 (w : World) : (isAgg 32).run Try.prog w = .ok false w := rfl
theorem bresz45 (w : World) : (sizeOf 45).run Try.prog w = .ok 5 w := rfl
theorem breag45 (w : World) : (isAgg 45).run Try.prog w = .ok true w := rfl
theorem brezv45 (w : World) : (zeroValue 45).run Try.prog w = .ok (.agg #[.int .u32 0, .int .i64 0, .int .i64 0, .int .i64 0, .int .i64 0]) w := rfl
theorem brenm43 : (Try.f43.name == "runtime.NumGoroutine") = false := by decide
theorem brebd43 : Try.f43.body.isNone = false := rfl
theorem brenm44 : (Try.f44.name == "runtime.NumGoroutine") = false := by decide
theorem brebd44 : Try.f44.body.isNone = false := rfl
theorem brefld43_1 (g o : Nat) (w : World) : (Instr.fieldAt 43 (.pointer (some ⟨g, o, none⟩)) 1).run Try.prog w = .ok (.pointer (some ⟨g, o + 1, none⟩)) w := by kernel_rfl
theorem brenm45 : (Try.f45.name == "runtime.NumGoroutine") = false := by decide
theorem brebd45 : Try.f45.body.isNone = false := rfl
theorem breag34 (w : World) : (isAgg 34).run Try.prog w = .ok true w := rfl
theorem bresz34 (w : World) : (sizeOf 34).run Try.prog w = .ok 1 w := rfl
theorem brenm36 : (Try.f36.name == "runtime.NumGoroutine") = false := by decide
theorem brebd36 : Try.f36.body.isNone = false := rfl
theorem brenm37 : (Try.f37.name == "runtime.NumGoroutine") = false := by decide
theorem brebd37 : Try.f37.body.isNone = false := rfl
theorem brebld45_530  (w : World) : (Instr.build 45 #[]).run Try.prog w = .ok (.agg #[.int .u32 0, .int .i64 0, .int .i64 0, .int .i64 0, .int .i64 0]) w := by kernel_rfl
theorem breone_u32i64i64i64i64 {a0 : Int} {a1 : Int} {a2 : Int} {a3 : Int} {a4 : Int} : ∀ u ∈ [(.int .u32 a0 : Value), .int .i64 a1, .int .i64 a2, .int .i64 a3, .int .i64 a4], u.oneCell' = true := by
  intro u hu
  simp only [List.mem_cons, List.not_mem_nil, or_false] at hu
  rcases hu with rfl | rfl | rfl | rfl | rfl <;> rfl
theorem brenm27 : (Try.f27.name == "runtime.NumGoroutine") = false := by decide
theorem brebd27 : Try.f27.body.isNone = false := rfl
set_option maxHeartbeats 1000000 in
theorem validE_any (x : En) (w : World) :
    Calls Try.prog 43 #[.agg x.cells.toArray] w fun e w' => e = .returned (.bool (validE x)) ∧ Below w.heap.size w w' := by
  refine begin_ (vs := [.agg x.cells.toArray]) Try.func43 rfl rfl rfl ?_ (Pm.start w)
  refine TC.seq_ ?_
  refine TC.region ?_
  refine TL.pnew rfl rfl rfl (exec_box (cs := x.cells) rfl rfl rfl) (fun g1 => ?_)
  refine TL.val rfl rfl rfl (gives_assign rfl rfl) ?_
  refine TL.end_ ?_
  refine TX.then_ ?_
  refine TC.seq_ ?_
  refine TC.region ?_
  refine TL.val rfl rfl rfl (gives_field (v := .pointer (some ⟨g1, 0, none⟩)) rfl rfl (fun w => brefld45_0 _ _ w)) ?_
  refine TL.val rfl rfl rfl (pm_loadV (k := 0) (i := 0) (n := 2) (v := .agg #[.int .u32 x.addr, .int .i64 x.len]) rfl rfl breag43 bresz43 rfl (by show 2 ≤ 5; decide) rfl) ?_
  refine TL.callsplit rfl rfl rfl rfl rfl Try.func58 brenm58 brebd58 (fun w1 hw => vldP_any x.addr x.len w1) (fun h5 => ?_) (fun h5 => ?_)
  · refine TL.val rfl rfl rfl (gives_move rfl rfl) ?_
    refine TL.on rfl rfl rfl ?_
    refine TL.val rfl rfl rfl (gives_field (v := .pointer (some ⟨g1, 2, none⟩)) rfl rfl (fun w => brefld45_1 _ _ w)) ?_
    refine TL.on rfl rfl rfl ?_
    refine TL.val rfl rfl rfl (pm_load (k := 0) (i := 2) rfl rfl breag3 rfl rfl) ?_
    refine TL.on rfl rfl rfl ?_
    refine TL.vsplit rfl rfl rfl (gives_bin rfl rfl rfl (fun w => bin_geq w)) (fun h9 => ?_) (fun h9 => ?_)
    · have q9 := of_decide_eq_true h9
      refine TL.val rfl rfl rfl (gives_pick rfl rfl rfl) ?_
      refine TL.val rfl rfl rfl (gives_move rfl rfl) ?_
      refine TL.on rfl rfl rfl ?_
      refine TL.val rfl rfl rfl (gives_field (v := .pointer (some ⟨g1, 2, none⟩)) rfl rfl (fun w => brefld45_1 _ _ w)) ?_
      refine TL.on rfl rfl rfl ?_
      refine TL.val rfl rfl rfl (pm_load (k := 0) (i := 2) rfl rfl breag3 rfl rfl) ?_
      refine TL.on rfl rfl rfl ?_
      refine TL.vsplit rfl rfl rfl (gives_bin rfl rfl rfl (fun w => bin_leq w)) (fun h14 => ?_) (fun h14 => ?_)
      · have q14 := of_decide_eq_true h14
        refine TL.val rfl rfl rfl (gives_pick rfl rfl rfl) ?_
        refine TL.val rfl rfl rfl (gives_move rfl rfl) ?_
        refine TL.on rfl rfl rfl ?_
        refine TL.val rfl rfl rfl (gives_field (v := .pointer (some ⟨g1, 3, none⟩)) rfl rfl (fun w => brefld45_2 _ _ w)) ?_
        refine TL.on rfl rfl rfl ?_
        refine TL.val rfl rfl rfl (pm_load (k := 0) (i := 3) rfl rfl breag3 rfl rfl) ?_
        refine TL.on rfl rfl rfl ?_
        refine TL.vsplit rfl rfl rfl (gives_bin rfl rfl rfl (fun w => bin_geq w)) (fun h19 => ?_) (fun h19 => ?_)
        · have q19 := of_decide_eq_true h19
          refine TL.val rfl rfl rfl (gives_pick rfl rfl rfl) ?_
          refine TL.val rfl rfl rfl (gives_move rfl rfl) ?_
          refine TL.on rfl rfl rfl ?_
          refine TL.val rfl rfl rfl (gives_field (v := .pointer (some ⟨g1, 3, none⟩)) rfl rfl (fun w => brefld45_2 _ _ w)) ?_
          refine TL.on rfl rfl rfl ?_
          refine TL.val rfl rfl rfl (pm_load (k := 0) (i := 3) rfl rfl breag3 rfl rfl) ?_
          refine TL.on rfl rfl rfl ?_
          refine TL.val rfl rfl rfl (gives_field (v := .pointer (some ⟨g1, 4, none⟩)) rfl rfl (fun w => brefld45_3 _ _ w)) ?_
          refine TL.on rfl rfl rfl ?_
          refine TL.val rfl rfl rfl (pm_load (k := 0) (i := 4) rfl rfl breag3 rfl rfl) ?_
          refine TL.on rfl rfl rfl ?_
          refine TL.vsplit rfl rfl rfl (gives_bin rfl rfl rfl (fun w => bin_lss w)) (fun h26 => ?_) (fun h26 => ?_)
          · have q26 := of_decide_eq_true h26
            refine TL.val rfl rfl rfl (gives_pick rfl rfl rfl) ?_
            refine TL.val rfl rfl rfl (gives_move rfl rfl) ?_
            refine TL.on rfl rfl rfl ?_
            refine TL.val rfl rfl rfl (gives_field (v := .pointer (some ⟨g1, 4, none⟩)) rfl rfl (fun w => brefld45_3 _ _ w)) ?_
            refine TL.on rfl rfl rfl ?_
            refine TL.val rfl rfl rfl (pm_load (k := 0) (i := 4) rfl rfl breag3 rfl rfl) ?_
            refine TL.on rfl rfl rfl ?_
            refine TL.vsplit rfl rfl rfl (gives_bin rfl rfl rfl (fun w => bin_leq w)) (fun h31 => ?_) (fun h31 => ?_)
            · have q31 := of_decide_eq_true h31
              refine TL.val rfl rfl rfl (gives_pick rfl rfl rfl) ?_
              refine TL.val rfl rfl rfl (gives_assign rfl rfl) ?_
              refine TL.end_ ?_
              refine TX.then_ ?_
              refine TC.ret_ ?_
              have hE : (validE x) = true := (by simp [validE, h5, q9, q14, q19, q26, q31]; try omega)
              exact ret_tmp Try.results43 rfl (fun w1 hw => ⟨by rw [hE], hw.bel⟩)
            · have q31 := of_decide_eq_false h31
              refine TL.val rfl rfl rfl (gives_pick rfl rfl rfl) ?_
              refine TL.val rfl rfl rfl (gives_assign rfl rfl) ?_
              refine TL.end_ ?_
              refine TX.then_ ?_
              refine TC.ret_ ?_
              have hE : (validE x) = false := (by simp [validE, h5, q9, q14, q19, q26, q31]; try omega)
              exact ret_tmp Try.results43 rfl (fun w1 hw => ⟨by rw [hE], hw.bel⟩)
          · have q26 := of_decide_eq_false h26
            refine TL.val rfl rfl rfl (gives_pick rfl rfl rfl) ?_
            refine TL.val rfl rfl rfl (gives_move rfl rfl) ?_
            refine TL.off rfl rfl rfl rfl rfl rfl ?_
            refine TL.off rfl rfl rfl rfl rfl rfl ?_
            refine TL.off rfl rfl rfl rfl rfl rfl ?_
            refine TL.val rfl rfl rfl (gives_pick rfl rfl rfl) ?_
            refine TL.val rfl rfl rfl (gives_assign rfl rfl) ?_
            refine TL.end_ ?_
            refine TX.then_ ?_
            refine TC.ret_ ?_
            have hE : (validE x) = false := (by simp [validE, h5, q9, q14, q19, q26]; try omega)
            exact ret_tmp Try.results43 rfl (fun w1 hw => ⟨by rw [hE], hw.bel⟩)
        · have q19 := of_decide_eq_false h19
          refine TL.val rfl rfl rfl (gives_pick rfl rfl rfl) ?_
          refine TL.val rfl rfl rfl (gives_move rfl rfl) ?_
          refine TL.off rfl rfl rfl rfl rfl rfl ?_
          refine TL.off rfl rfl rfl rfl rfl rfl ?_
          refine TL.off rfl rfl rfl rfl rfl rfl ?_
          refine TL.off rfl rfl rfl rfl rfl rfl ?_
          refine TL.off rfl rfl rfl rfl rfl rfl ?_
          refine TL.val rfl rfl rfl (gives_pick rfl rfl rfl) ?_
          refine TL.val rfl rfl rfl (gives_move rfl rfl) ?_
          refine TL.off rfl rfl rfl rfl rfl rfl ?_
          refine TL.off rfl rfl rfl rfl rfl rfl ?_
          refine TL.off rfl rfl rfl rfl rfl rfl ?_
          refine TL.val rfl rfl rfl (gives_pick rfl rfl rfl) ?_
          refine TL.val rfl rfl rfl (gives_assign rfl rfl) ?_
          refine TL.end_ ?_
          refine TX.then_ ?_
          refine TC.ret_ ?_
          have hE : (validE x) = false := (by simp [validE, h5, q9, q14, q19]; try omega)
          exact ret_tmp Try.results43 rfl (fun w1 hw => ⟨by rw [hE], hw.bel⟩)
      · have q14 := of_decide_eq_false h14
        refine TL.val rfl rfl rfl (gives_pick rfl rfl rfl) ?_
        refine TL.val rfl rfl rfl (gives_move rfl rfl) ?_
        refine TL.off rfl rfl rfl rfl rfl rfl ?_
        refine TL.off rfl rfl rfl rfl rfl rfl ?_
        refine TL.off rfl rfl rfl rfl rfl rfl ?_
        refine TL.val rfl rfl rfl (gives_pick rfl rfl rfl) ?_
        refine TL.val rfl rfl rfl (gives_move rfl rfl) ?_
        refine TL.off rfl rfl rfl rfl rfl rfl ?_
        refine TL.off rfl rfl rfl rfl rfl rfl ?_
        refine TL.off rfl rfl rfl rfl rfl rfl ?_
        refine TL.off rfl rfl rfl rfl rfl rfl ?_
        refine TL.off rfl rfl rfl rfl rfl rfl ?_
        refine TL.val rfl rfl rfl (gives_pick rfl rfl rfl) ?_
        refine TL.val rfl rfl rfl (gives_move rfl rfl) ?_
        refine TL.off rfl rfl rfl rfl rfl rfl ?_
        refine TL.off rfl rfl rfl rfl rfl rfl ?_
        refine TL.off rfl rfl rfl rfl rfl rfl ?_
        refine TL.val rfl rfl rfl (gives_pick rfl rfl rfl) ?_
        refine TL.val rfl rfl rfl (gives_assign rfl rfl) ?_
        refine TL.end_ ?_
        refine TX.then_ ?_
        refine TC.ret_ ?_
        have hE : (validE x) = false := (by simp [validE, h5, q9, q14]; try omega)
        exact ret_tmp Try.results43 rfl (fun w1 hw => ⟨by rw [hE], hw.bel⟩)
    · have q9 := of_decide_eq_false h9
      refine TL.val rfl rfl rfl (gives_pick rfl rfl rfl) ?_
      refine TL.val rfl rfl rfl (gives_move rfl rfl) ?_
      refine TL.off rfl rfl rfl rfl rfl rfl ?_
      refine TL.off rfl rfl rfl rfl rfl rfl ?_
      refine TL.off rfl rfl rfl rfl rfl rfl ?_
      refine TL.val rfl rfl rfl (gives_pick rfl rfl rfl) ?_
      refine TL.val rfl rfl rfl (gives_move rfl rfl) ?_
      refine TL.off rfl rfl rfl rfl rfl rfl ?_
      refine TL.off rfl rfl rfl rfl rfl rfl ?_
      refine TL.off rfl rfl rfl rfl rfl rfl ?_
      refine TL.val rfl rfl rfl (gives_pick rfl rfl rfl) ?_
      refine TL.val rfl rfl rfl (gives_move rfl rfl) ?_
      refine TL.off rfl rfl rfl rfl rfl rfl ?_
      refine TL.off rfl rfl rfl rfl rfl rfl ?_
      refine TL.off rfl rfl rfl rfl rfl rfl ?_
      refine TL.off rfl rfl rfl rfl rfl rfl ?_
      refine TL.off rfl rfl rfl rfl rfl rfl ?_
      refine TL.val rfl rfl rfl (gives_pick rfl rfl rfl) ?_
      refine TL.val rfl rfl rfl (gives_move rfl rfl) ?_
      refine TL.off rfl rfl rfl rfl rfl rfl ?_
      refine TL.off rfl rfl rfl rfl rfl rfl ?_
      refine TL.off rfl rfl rfl rfl rfl rfl ?_
      refine TL.val rfl rfl rfl (gives_pick rfl rfl rfl) ?_
      refine TL.val rfl rfl rfl (gives_assign rfl rfl) ?_
      refine TL.end_ ?_
      refine TX.then_ ?_
      refine TC.ret_ ?_
      have hE : (validE x) = false := (by simp [validE, h5, q9]; try omega)
      exact ret_tmp Try.results43 rfl (fun w1 hw => ⟨by rw [hE], hw.bel⟩)
  · refine TL.val rfl rfl rfl (gives_move rfl rfl) ?_
    refine TL.off rfl rfl rfl rfl rfl rfl ?_
    refine TL.off rfl rfl rfl rfl rfl rfl ?_
    refine TL.off rfl rfl rfl rfl rfl rfl ?_
    refine TL.val rfl rfl rfl (gives_pick rfl rfl rfl) ?_
    refine TL.val rfl rfl rfl (gives_move rfl rfl) ?_
    refine TL.off rfl rfl rfl rfl rfl rfl ?_
    refine TL.off rfl rfl rfl rfl rfl rfl ?_
    refine TL.off rfl rfl rfl rfl rfl rfl ?_
    refine TL.val rfl rfl rfl (gives_pick rfl rfl rfl) ?_
    refine TL.val rfl rfl rfl (gives_move rfl rfl) ?_
    refine TL.off rfl rfl rfl rfl rfl rfl ?_
    refine TL.off rfl rfl rfl rfl rfl rfl ?_
    refine TL.off rfl rfl rfl rfl rfl rfl ?_
    refine TL.val rfl rfl rfl (gives_pick rfl rfl rfl) ?_
    refine TL.val rfl rfl rfl (gives_move rfl rfl) ?_
    refine TL.off rfl rfl rfl rfl rfl rfl ?_
    refine TL.off rfl rfl rfl rfl rfl rfl ?_
    refine TL.off rfl rfl rfl rfl rfl rfl ?_
    refine TL.off rfl rfl rfl rfl rfl rfl ?_
    refine TL.off rfl rfl rfl rfl rfl rfl ?_
    refine TL.val rfl rfl rfl (gives_pick rfl rfl rfl) ?_
    refine TL.val rfl rfl rfl (gives_move rfl rfl) ?_
    refine TL.off rfl rfl rfl rfl rfl rfl ?_
    refine TL.off rfl rfl rfl rfl rfl rfl ?_
    refine TL.off rfl rfl rfl rfl rfl rfl ?_
    refine TL.val rfl rfl rfl (gives_pick rfl rfl rfl) ?_
    refine TL.val rfl rfl rfl (gives_assign rfl rfl) ?_
    refine TL.end_ ?_
    refine TX.then_ ?_
    refine TC.ret_ ?_
    have hE : (validE x) = false := (by simp [validE, h5]; try omega)
    exact ret_tmp Try.results43 rfl (fun w1 hw => ⟨by rw [hE], hw.bel⟩)
theorem okN {es : List En} {i : Nat} (h : ∀ j, j < i → okAt es j = true) (hi : okAt es i = true) : ∀ j, j < i + 1 → okAt es j = true := fun j hj => by
  rcases Nat.lt_or_ge j i with h1 | h1
  · exact h j h1
  · obtain rfl : j = i := by omega
    exact hi
set_option maxHeartbeats 1000000 in
theorem validR_any (A0 : Option Addr) (c0 : Nat) (es : List En) (w : World) (hr : Reads w w.heap.size 5 A0 es.length (flat En.cells es)) :
    Calls Try.prog 36 #[.agg #[.slice A0 es.length c0]] w fun e w' => e = .returned (.bool (validR es)) ∧ Below w.heap.size w w' := by
  refine begin_ (vs := [.agg #[.slice A0 es.length c0]]) Try.func36 rfl rfl rfl ?_ (Pm.start w)
  refine TC.seq_ ?_
  refine TC.region ?_
  refine TL.pnew rfl rfl rfl (exec_box (cs := [.slice A0 es.length c0]) rfl rfl rfl) (fun g1 => ?_)
  refine TL.val rfl rfl rfl (gives_assign rfl rfl) ?_
  refine TL.end_ ?_
  refine TX.then_ ?_
  refine TC.seq_ ?_
  refine TC.seq_ ?_
  refine TC.region ?_
  refine TL.val rfl rfl rfl (gives_field (v := .pointer (some ⟨g1, 0, none⟩)) rfl rfl (fun w => brefld34_0 _ _ w)) ?_
  refine TL.val rfl rfl rfl (pm_load (k := 0) (i := 0) rfl rfl breag32 rfl rfl) ?_
  refine TL.val rfl rfl rfl (gives_len rfl Try.underlying32 rfl) ?_
  refine TL.vsplit rfl rfl rfl (gives_bin rfl rfl rfl (fun w => bin_gtr w)) (fun h10 => ?_) (fun h10 => ?_)
  · have q10 := of_decide_eq_true h10
    refine TL.end_ ?_
    refine TX.then_ ?_
    refine TC.condT rfl ?_
    refine TC.seq_ ?_
    refine TC.region ?_
    refine TL.val rfl rfl rfl (gives_assign rfl rfl) ?_
    refine TL.end_ ?_
    refine TX.then_ ?_
    refine TC.ret_ ?_
    refine TX.then_ret ?_
    have hE : validR es = false := by simp only [validR, decide_eq_false (show ¬ es.length ≤ 1024 by omega), Bool.false_and]
    exact ret_tmp Try.results36 rfl (fun w1 hw => ⟨by rw [hE], hw.bel⟩)
  · have q10 := of_decide_eq_false h10
    refine TL.end_ ?_
    refine TX.then_ ?_
    refine TC.condF rfl ?_
    refine TC.skip_ ?_
    refine TX.then_ ?_
    refine TC.seq_ ?_
    refine TC.seq_ ?_
    refine TC.region ?_
    refine TL.val rfl rfl rfl (gives_field (v := .pointer (some ⟨g1, 0, none⟩)) rfl rfl (fun w => brefld34_0 _ _ w)) ?_
    refine TL.val rfl rfl rfl (pm_load (k := 0) (i := 0) rfl rfl breag32 rfl rfl) ?_
    refine TL.val rfl rfl rfl (gives_len rfl Try.underlying32 rfl) ?_
    refine TL.val rfl rfl rfl (gives_move rfl rfl) ?_
    refine TL.end_ ?_
    refine TX.then_ ?_
    refine TC.block ?_
    refine TC.loop_ (α := {i : Nat // i ≤ es.length ∧ ∀ j, j < i → okAt es j = true}) (fun y => [(1, .pointer (some ⟨g1, 0, none⟩)), (12, .slice A0 es.length c0), (13, .int .i64 (es.length : Nat)), (14, .int .i64 ((y.1 : Nat) : Int))]) (fun y => Pm w [.blk g1 34 [.slice A0 es.length c0]]) (fun y => es.length - y.1) (⟨0, Nat.zero_le _, fun j hj => absurd hj (Nat.not_lt_zero _)⟩) ⟨rfl, rfl, rfl, rfl, trivial⟩ (fun w1 hw => hw) ?_
    rintro ⟨i, hi, hok⟩
    try dsimp only at hi hok ⊢
    refine TC.seq_ ?_
    refine TC.region ?_
    refine TL.vsplit rfl rfl rfl (gives_bin rfl rfl rfl (fun w => bin_lss w)) (fun h15 => ?_) (fun h15 => ?_)
    · have q15 := of_decide_eq_true h15
      refine TL.end_ ?_
      refine TX.then_ ?_
      refine TC.seq_ ?_
      refine TC.condT rfl ?_
      refine TC.skip_ ?_
      refine TX.then_ ?_
      refine TC.seq_ ?_
      refine TC.block ?_
      refine TC.seq_ ?_
      refine TC.region ?_
      refine TL.val rfl rfl rfl (gives_move rfl rfl) ?_
      have hi17 : i < es.length := by omega
      obtain ⟨x17, hx17⟩ : ∃ x17, es[i]? = some x17 := ⟨_, List.getElem?_eq_getElem hi17⟩
      obtain ⟨b17, o17, hA17, hbb17, hc17⟩ := hr.ad (by omega) (by decide)
      refine TL.val rfl rfl rfl (gives_at (v := .pointer (some ⟨b17, o17 + i * 5, none⟩)) rfl rfl rfl (fun w => at_el Try.underlying32 bresz45 hA17 _ _ i (by omega) rfl w)) ?_
      refine TL.val rfl rfl rfl (gives_loadR (off := o17 + i * 5) rfl rfl breag45 bresz45 (en_cel.len x17) (fun w1 hw j9 u9 h9 => (hw.bel.cell hbb17).trans <| flat_cell en_cel hx17 hc17 j9 u9 h9)) ?_
      refine TL.pnew rfl rfl rfl (exec_alloc (cs := [.int .u32 0, .int .i64 0, .int .i64 0, .int .i64 0, .int .i64 0]) rfl brezv45 rfl) (fun g4 => ?_)
      refine TL.val rfl rfl rfl (gives_assign rfl rfl) ?_
      refine TL.pstore (k := 0) (vs := x17.cells) rfl rfl rfl rfl rfl rfl rfl bresz45 (en_cel.one _) (by show 5 ≤ 5; decide) (L' := [.blk g4 45 x17.cells, .blk g1 34 [.slice A0 es.length c0]]) rfl ?_
      refine TL.end_ ?_
      refine TX.then_ ?_
      refine TC.seq_ ?_
      refine TC.seq_ ?_
      refine TC.region ?_
      refine TL.val rfl rfl rfl (pm_loadV (k := 0) (i := 0) (n := 5) (v := .agg (x17.cells).toArray) rfl rfl breag45 bresz45 rfl (by show 5 ≤ 5; decide) rfl) ?_
      refine TL.callsplit rfl rfl rfl rfl rfl Try.func43 brenm43 brebd43 (fun w1 hw => validE_any x17 w1) (fun h20 => ?_) (fun h20 => ?_)
      · refine TL.val rfl rfl rfl (gives_boolnot rfl rfl) ?_
        refine TL.end_ ?_
        refine TX.then_ ?_
        refine TC.condF rfl ?_
        refine TC.skip_ ?_
        refine TX.then_ ?_
        refine TC.seq_ ?_
        refine TC.seq_ ?_
        refine TC.region ?_
        refine TL.val rfl rfl rfl (gives_move rfl rfl) ?_
        refine TL.vsplit rfl rfl rfl (gives_bin rfl rfl rfl (fun w => bin_eql w)) (fun h23 => ?_) (fun h23 => ?_)
        · have q23 := of_decide_eq_true h23
          refine TL.end_ ?_
          refine TX.then_ ?_
          refine TC.condT rfl ?_
          refine TC.exit_ ?_
          refine TX.then_exit ?_
          refine TX.in_same ?_
          refine TX.then_ ?_
          refine TC.region ?_
          refine TL.val rfl rfl rfl (gives_bin rfl rfl rfl (fun w => bin_add_ (r := ((i + 1 : Nat) : Int)) (by simp only [IntKind.wrap_i64]; omega) w)) ?_
          refine TL.val rfl rfl rfl (gives_move rfl rfl) ?_
          refine TL.end_ ?_
          exact TX.round (⟨i + 1, by omega, okN hok (okAt_zero (by omega) hx17 h20)⟩) (by show es.length - (i + 1) < es.length - i; omega) ⟨rfl, rfl, rfl, rfl, trivial⟩ (fun w1 hw => hw.pick [1] (by decide) rfl)
        · have q23 := of_decide_eq_false h23
          refine TL.end_ ?_
          refine TX.then_ ?_
          refine TC.condF rfl ?_
          refine TC.skip_ ?_
          refine TX.then_ ?_
          refine TC.seq_ ?_
          refine TC.region ?_
          refine TL.val rfl rfl rfl (gives_field (v := .pointer (some ⟨g1, 0, none⟩)) rfl rfl (fun w => brefld34_0 _ _ w)) ?_
          refine TL.val rfl rfl rfl (pm_load (k := 1) (i := 0) rfl rfl breag32 rfl rfl) ?_
          refine TL.val rfl rfl rfl (gives_move rfl rfl) ?_
          refine TL.val rfl rfl rfl (gives_bin rfl rfl rfl (fun w => bin_sub_ (r := ((i - 1 : Nat) : Int)) (by simp only [IntKind.wrap_i64]; omega) w)) ?_
          have hi28 : i - 1 < es.length := by omega
          obtain ⟨x28, hx28⟩ : ∃ x28, es[i - 1]? = some x28 := ⟨_, List.getElem?_eq_getElem hi28⟩
          obtain ⟨b28, o28, hA28, hbb28, hc28⟩ := hr.ad (by omega) (by decide)
          refine TL.val rfl rfl rfl (gives_at (v := .pointer (some ⟨b28, o28 + (i - 1) * 5, none⟩)) rfl rfl rfl (fun w => at_el Try.underlying32 bresz45 hA28 _ _ (i - 1) (by omega) rfl w)) ?_
          refine TL.val rfl rfl rfl (gives_loadR (off := o28 + (i - 1) * 5) rfl rfl breag45 bresz45 (en_cel.len x28) (fun w1 hw j9 u9 h9 => (hw.bel.cell hbb28).trans <| flat_cell en_cel hx28 hc28 j9 u9 h9)) ?_
          refine TL.pnew rfl rfl rfl (exec_alloc (cs := [.int .u32 0, .int .i64 0, .int .i64 0, .int .i64 0, .int .i64 0]) rfl brezv45 rfl) (fun g5 => ?_)
          refine TL.pstore (k := 0) (vs := x28.cells) rfl rfl rfl rfl rfl rfl rfl bresz45 (en_cel.one _) (by show 5 ≤ 5; decide) (L' := [.blk g5 45 x28.cells, .blk g4 45 x17.cells, .blk g1 34 [.slice A0 es.length c0]]) rfl ?_
          refine TL.end_ ?_
          refine TX.then_ ?_
          refine TC.seq_ ?_
          refine TC.region ?_
          refine TL.val rfl rfl rfl (gives_field (v := .pointer (some ⟨g5, 0, none⟩)) rfl rfl (fun w => brefld45_0 _ _ w)) ?_
          refine TL.val rfl rfl rfl (pm_loadV (k := 0) (i := 0) (n := 2) (v := .agg #[.int .u32 x28.addr, .int .i64 x28.len]) rfl rfl breag43 bresz43 rfl (by show 2 ≤ 5; decide) rfl) ?_
          refine TL.val rfl rfl rfl (gives_field (v := .pointer (some ⟨g4, 0, none⟩)) rfl rfl (fun w => brefld45_0 _ _ w)) ?_
          refine TL.val rfl rfl rfl (pm_loadV (k := 1) (i := 0) (n := 2) (v := .agg #[.int .u32 x17.addr, .int .i64 x17.len]) rfl rfl breag43 bresz43 rfl (by show 2 ≤ 5; decide) rfl) ?_
          refine TL.pcall1 (r := .int .i64 (cmpP x28.addr x28.len x17.addr x17.len)) rfl rfl rfl rfl rfl Try.func44 brenm44 brebd44 (fun w1 hw => cmpP_any x28.addr x28.len x17.addr x17.len w1) ?_
          refine TL.val rfl rfl rfl (gives_assign rfl rfl) ?_
          refine TL.end_ ?_
          refine TX.then_ ?_
          refine TC.seq_ ?_
          refine TC.region ?_
          refine TL.val rfl rfl rfl (gives_move rfl rfl) ?_
          refine TL.vsplit rfl rfl rfl (gives_bin rfl rfl rfl (fun w => bin_gtr w)) (fun h36 => ?_) (fun h36 => ?_)
          · have q36 := of_decide_eq_true h36
            refine TL.val rfl rfl rfl (gives_move rfl rfl) ?_
            refine TL.off rfl rfl rfl rfl rfl rfl ?_
            refine TL.off rfl rfl rfl rfl rfl rfl ?_
            refine TL.off rfl rfl rfl rfl rfl rfl ?_
            refine TL.offU rfl rfl rfl rfl rfl ?_
            refine TL.offU rfl rfl rfl rfl rfl ?_
            refine TL.offU rfl rfl rfl rfl rfl ?_
            refine TL.offU rfl rfl rfl rfl rfl ?_
            refine TL.offU rfl rfl rfl rfl rfl ?_
            refine TL.off rfl rfl rfl rfl rfl rfl ?_
            refine TL.val rfl rfl rfl (gives_pick rfl rfl rfl) ?_
            refine TL.end_ ?_
            refine TX.then_ ?_
            refine TC.condT rfl ?_
            refine TC.seq_ ?_
            refine TC.region ?_
            refine TL.val rfl rfl rfl (gives_assign rfl rfl) ?_
            refine TL.end_ ?_
            refine TX.then_ ?_
            refine TC.ret_ ?_
            refine TX.in_ret ?_
            refine TX.then_ret ?_
            refine TX.then_ret ?_
            refine TX.in_ret ?_
            refine TX.then_ret ?_
            have hE : validR es = false := validR_false hi17 (okAt_pair (t := false) (by omega) hx17 hx28 h20 (by simp [badP, q15, h20, q23, q36]))
            exact ret_tmp Try.results36 rfl (fun w1 hw => ⟨by rw [hE], hw.bel⟩)
          · have q36 := of_decide_eq_false h36
            refine TL.val rfl rfl rfl (gives_move rfl rfl) ?_
            refine TL.on rfl rfl rfl ?_
            refine TL.val rfl rfl rfl (gives_move rfl rfl) ?_
            refine TL.on rfl rfl rfl ?_
            refine TL.vsplit rfl rfl rfl (gives_bin rfl rfl rfl (fun w => bin_eql w)) (fun h39 => ?_) (fun h39 => ?_)
            · have q39 := of_decide_eq_true h39
              refine TL.on rfl rfl rfl ?_
              refine TL.val rfl rfl rfl (gives_move rfl rfl) ?_
              refine TL.on rfl rfl rfl ?_
              refine TL.val rfl rfl rfl (gives_field (v := .pointer (some ⟨g4, 3, none⟩)) rfl rfl (fun w => brefld45_2 _ _ w)) ?_
              refine TL.on rfl rfl rfl ?_
              refine TL.val rfl rfl rfl (pm_load (k := 1) (i := 3) rfl rfl breag3 rfl rfl) ?_
              refine TL.on rfl rfl rfl ?_
              refine TL.val rfl rfl rfl (gives_field (v := .pointer (some ⟨g5, 4, none⟩)) rfl rfl (fun w => brefld45_3 _ _ w)) ?_
              refine TL.on rfl rfl rfl ?_
              refine TL.val rfl rfl rfl (pm_load (k := 0) (i := 4) rfl rfl breag3 rfl rfl) ?_
              refine TL.on rfl rfl rfl ?_
              refine TL.vsplit rfl rfl rfl (gives_bin rfl rfl rfl (fun w => bin_lss w)) (fun h45 => ?_) (fun h45 => ?_)
              · have q45 := of_decide_eq_true h45
                refine TL.on rfl rfl rfl ?_
                refine TL.val rfl rfl rfl (gives_pick rfl rfl rfl) ?_
                refine TL.val rfl rfl rfl (gives_pick rfl rfl rfl) ?_
                refine TL.end_ ?_
                refine TX.then_ ?_
                refine TC.condT rfl ?_
                refine TC.seq_ ?_
                refine TC.region ?_
                refine TL.val rfl rfl rfl (gives_assign rfl rfl) ?_
                refine TL.end_ ?_
                refine TX.then_ ?_
                refine TC.ret_ ?_
                refine TX.in_ret ?_
                refine TX.then_ret ?_
                refine TX.then_ret ?_
                refine TX.in_ret ?_
                refine TX.then_ret ?_
                have hE : validR es = false := validR_false hi17 (okAt_pair (t := false) (by omega) hx17 hx28 h20 (by simp [badP, q15, h20, q23, q36, q39, q45]))
                exact ret_tmp Try.results36 rfl (fun w1 hw => ⟨by rw [hE], hw.bel⟩)
              · have q45 := of_decide_eq_false h45
                refine TL.on rfl rfl rfl ?_
                refine TL.val rfl rfl rfl (gives_pick rfl rfl rfl) ?_
                refine TL.val rfl rfl rfl (gives_pick rfl rfl rfl) ?_
                refine TL.end_ ?_
                refine TX.then_ ?_
                refine TC.condF rfl ?_
                refine TC.skip_ ?_
                refine TX.in_normal ?_
                refine TX.then_ ?_
                refine TC.region ?_
                refine TL.val rfl rfl rfl (gives_bin rfl rfl rfl (fun w => bin_add_ (r := ((i + 1 : Nat) : Int)) (by simp only [IntKind.wrap_i64]; omega) w)) ?_
                refine TL.val rfl rfl rfl (gives_move rfl rfl) ?_
                refine TL.end_ ?_
                exact TX.round (⟨i + 1, by omega, okN hok (okAt_pair (t := true) (by omega) hx17 hx28 h20 (by simp [badP, q15, h20, q23, q36, q39, q45]))⟩) (by show es.length - (i + 1) < es.length - i; omega) ⟨rfl, rfl, rfl, rfl, trivial⟩ (fun w1 hw => hw.pick [2] (by decide) rfl)
            · have q39 := of_decide_eq_false h39
              refine TL.on rfl rfl rfl ?_
              refine TL.val rfl rfl rfl (gives_move rfl rfl) ?_
              refine TL.off rfl rfl rfl rfl rfl rfl ?_
              refine TL.off rfl rfl rfl rfl rfl rfl ?_
              refine TL.off rfl rfl rfl rfl rfl rfl ?_
              refine TL.off rfl rfl rfl rfl rfl rfl ?_
              refine TL.off rfl rfl rfl rfl rfl rfl ?_
              refine TL.on rfl rfl rfl ?_
              refine TL.val rfl rfl rfl (gives_pick rfl rfl rfl) ?_
              refine TL.val rfl rfl rfl (gives_pick rfl rfl rfl) ?_
              refine TL.end_ ?_
              refine TX.then_ ?_
              refine TC.condF rfl ?_
              refine TC.skip_ ?_
              refine TX.in_normal ?_
              refine TX.then_ ?_
              refine TC.region ?_
              refine TL.val rfl rfl rfl (gives_bin rfl rfl rfl (fun w => bin_add_ (r := ((i + 1 : Nat) : Int)) (by simp only [IntKind.wrap_i64]; omega) w)) ?_
              refine TL.val rfl rfl rfl (gives_move rfl rfl) ?_
              refine TL.end_ ?_
              exact TX.round (⟨i + 1, by omega, okN hok (okAt_pair (t := true) (by omega) hx17 hx28 h20 (by simp [badP, q15, h20, q23, q36, q39]))⟩) (by show es.length - (i + 1) < es.length - i; omega) ⟨rfl, rfl, rfl, rfl, trivial⟩ (fun w1 hw => hw.pick [2] (by decide) rfl)
      · refine TL.val rfl rfl rfl (gives_boolnot rfl rfl) ?_
        refine TL.end_ ?_
        refine TX.then_ ?_
        refine TC.condT rfl ?_
        refine TC.seq_ ?_
        refine TC.region ?_
        refine TL.val rfl rfl rfl (gives_assign rfl rfl) ?_
        refine TL.end_ ?_
        refine TX.then_ ?_
        refine TC.ret_ ?_
        refine TX.then_ret ?_
        refine TX.in_ret ?_
        refine TX.then_ret ?_
        refine TX.then_ret ?_
        refine TX.in_ret ?_
        refine TX.then_ret ?_
        have hE : validR es = false := validR_false hi17 (okAt_bad hx17 h20)
        exact ret_tmp Try.results36 rfl (fun w1 hw => ⟨by rw [hE], hw.bel⟩)
    · have q15 := of_decide_eq_false h15
      refine TL.end_ ?_
      refine TX.then_ ?_
      refine TC.seq_ ?_
      refine TC.condF rfl ?_
      refine TC.exit_ ?_
      refine TX.then_exit ?_
      refine TX.then_exit ?_
      refine TX.in_same ?_
      refine TX.then_ ?_
      refine TC.seq_ ?_
      refine TC.region ?_
      refine TL.val rfl rfl rfl (gives_assign rfl rfl) ?_
      refine TL.end_ ?_
      refine TX.then_ ?_
      refine TC.ret_ ?_
      have hE : validR es = true := validR_true (by omega) (fun j hj => hok j (by omega))
      exact ret_tmp Try.results36 rfl (fun w1 hw => ⟨by rw [hE], hw.bel⟩)
set_option maxHeartbeats 1000000 in
theorem lookR_any (A0 : Option Addr) (c0 : Nat) (es : List En) (a t : Int) (w : World) (hr : Reads w w.heap.size 5 A0 es.length (flat En.cells es)) (hl1 : es.length ≤ 100000) :
    Calls Try.prog 37 #[.agg #[.slice A0 es.length c0], .int .u32 a, .int .i64 t] w fun e w' => e = .returned (.tuple #[.agg (lookR es a t).1.cells.toArray, .bool (lookR es a t).2]) ∧ Below w.heap.size w w' := by
  refine begin_ (vs := [.agg #[.slice A0 es.length c0], .int .u32 a, .int .i64 t]) Try.func37 rfl rfl rfl ?_ (Pm.start w)
  refine TC.seq_ ?_
  refine TC.region ?_
  refine TL.pnew rfl rfl rfl (exec_box (cs := [.slice A0 es.length c0]) rfl rfl rfl) (fun g3 => ?_)
  refine TL.pnew rfl rfl rfl (exec_alloc (cs := En.zero.cells) rfl brezv45 rfl) (fun g6 => ?_)
  refine TL.val rfl rfl rfl (gives_assign rfl rfl) ?_
  refine TL.end_ ?_
  refine TX.then_ ?_
  refine TC.seq_ ?_
  refine TC.region ?_
  refine TL.pnew rfl rfl rfl (exec_alloc (cs := En.zero.cells) rfl brezv45 rfl) (fun g8 => ?_)
  refine TL.end_ ?_
  refine TX.then_ ?_
  refine TC.seq_ ?_
  refine TC.region ?_
  refine TL.val rfl rfl rfl (gives_assign rfl rfl) ?_
  refine TL.end_ ?_
  refine TX.then_ ?_
  refine TC.seq_ ?_
  refine TC.seq_ ?_
  refine TC.region ?_
  refine TL.val rfl rfl rfl (gives_field (v := .pointer (some ⟨g3, 0, none⟩)) rfl rfl (fun w => brefld34_0 _ _ w)) ?_
  refine TL.val rfl rfl rfl (pm_load (k := 2) (i := 0) rfl rfl breag32 rfl rfl) ?_
  refine TL.val rfl rfl rfl (gives_len rfl Try.underlying32 rfl) ?_
  refine TL.val rfl rfl rfl (gives_move rfl rfl) ?_
  refine TL.end_ ?_
  refine TX.then_ ?_
  refine TC.block ?_
  refine TC.loop_ (α := {y : Nat × En × Bool // y.1 ≤ es.length ∧ lookR (es.take y.1) a t = y.2}) (fun y => [(1, .int .u32 a), (2, .int .i64 t), (6, .pointer (some ⟨g6, 0, none⟩)), (8, .pointer (some ⟨g8, 0, none⟩)), (13, .slice A0 es.length c0), (14, .int .i64 (es.length : Nat)), (15, .int .i64 ((y.1.1 : Nat) : Int)), (9, .bool y.1.2.2)]) (fun y => Pm w [.blk g8 45 y.1.2.1.cells, .blk g6 45 En.zero.cells, .blk g3 34 [.slice A0 es.length c0]]) (fun y => es.length - y.1.1) (⟨(0, En.zero, false), Nat.zero_le _, rfl⟩) ⟨rfl, rfl, rfl, rfl, rfl, rfl, rfl, rfl, trivial⟩ (fun w1 hw => hw) ?_
  rintro ⟨⟨i, bst, fnd⟩, hi, hst⟩
  dsimp only at hi hst ⊢
  refine TC.seq_ ?_
  refine TC.region ?_
  refine TL.vsplit rfl rfl rfl (gives_bin rfl rfl rfl (fun w => bin_lss w)) (fun h16 => ?_) (fun h16 => ?_)
  · have q16 := of_decide_eq_true h16
    refine TL.end_ ?_
    refine TX.then_ ?_
    refine TC.seq_ ?_
    refine TC.condT rfl ?_
    refine TC.skip_ ?_
    refine TX.then_ ?_
    refine TC.seq_ ?_
    refine TC.block ?_
    refine TC.seq_ ?_
    refine TC.region ?_
    have hi17 : i < es.length := by omega
    obtain ⟨x17, hx17⟩ : ∃ x17, es[i]? = some x17 := ⟨_, List.getElem?_eq_getElem hi17⟩
    obtain ⟨b17, o17, hA17, hbb17, hc17⟩ := hr.ad (by omega) (by decide)
    refine TL.val rfl rfl rfl (gives_at (v := .pointer (some ⟨b17, o17 + i * 5, none⟩)) rfl rfl rfl (fun w => at_el Try.underlying32 bresz45 hA17 _ _ i (by omega) rfl w)) ?_
    refine TL.val rfl rfl rfl (gives_loadR (off := o17 + i * 5) rfl rfl breag45 bresz45 (en_cel.len x17) (fun w1 hw j9 u9 h9 => (hw.bel.cell hbb17).trans <| flat_cell en_cel hx17 hc17 j9 u9 h9)) ?_
    refine TL.pnew rfl rfl rfl (exec_alloc (cs := En.zero.cells) rfl brezv45 rfl) (fun g11 => ?_)
    refine TL.pstore (k := 0) (vs := x17.cells) rfl rfl rfl rfl rfl rfl rfl bresz45 (en_cel.one _) (by show 5 ≤ 5; decide) (L' := [.blk g11 45 x17.cells, .blk g8 45 bst.cells, .blk g6 45 En.zero.cells, .blk g3 34 [.slice A0 es.length c0]]) rfl ?_
    refine TL.end_ ?_
    refine TX.then_ ?_
    refine TC.seq_ ?_
    cases fnd with
    | true =>
      refine TC.region ?_
      refine TL.val rfl rfl rfl (gives_field (v := .pointer (some ⟨g11, 3, none⟩)) rfl rfl (fun w => brefld45_2 _ _ w)) ?_
      refine TL.val rfl rfl rfl (pm_load (k := 0) (i := 3) rfl rfl breag3 rfl rfl) ?_
      refine TL.val rfl rfl rfl (gives_move rfl rfl) ?_
      refine TL.vsplit rfl rfl rfl (gives_bin rfl rfl rfl (fun w => bin_leq w)) (fun h22 => ?_) (fun h22 => ?_)
      · have q22 := of_decide_eq_true h22
        refine TL.val rfl rfl rfl (gives_move rfl rfl) ?_
        refine TL.on rfl rfl rfl ?_
        refine TL.val rfl rfl rfl (gives_move rfl rfl) ?_
        refine TL.on rfl rfl rfl ?_
        refine TL.val rfl rfl rfl (gives_field (v := .pointer (some ⟨g11, 4, none⟩)) rfl rfl (fun w => brefld45_3 _ _ w)) ?_
        refine TL.on rfl rfl rfl ?_
        refine TL.val rfl rfl rfl (pm_load (k := 0) (i := 4) rfl rfl breag3 rfl rfl) ?_
        refine TL.on rfl rfl rfl ?_
        refine TL.vsplit rfl rfl rfl (gives_bin rfl rfl rfl (fun w => bin_lss w)) (fun h27 => ?_) (fun h27 => ?_)
        · have q27 := of_decide_eq_true h27
          refine TL.val rfl rfl rfl (gives_pick rfl rfl rfl) ?_
          refine TL.val rfl rfl rfl (gives_move rfl rfl) ?_
          refine TL.on rfl rfl rfl ?_
          refine TL.val rfl rfl rfl (gives_move rfl rfl) ?_
          refine TL.on rfl rfl rfl ?_
          refine TL.val rfl rfl rfl (gives_boolnot rfl rfl) ?_
          refine TL.on rfl rfl rfl ?_
          refine TL.val rfl rfl rfl (gives_move rfl rfl) ?_
          refine TL.on rfl rfl rfl ?_
          refine TL.val rfl rfl rfl (gives_field (v := .pointer (some ⟨g11, 0, none⟩)) rfl rfl (fun w => brefld45_0 _ _ w)) ?_
          refine TL.on rfl rfl rfl ?_
          refine TL.val rfl rfl rfl (gives_field (v := .pointer (some ⟨g11, 1, none⟩)) rfl rfl (fun w => brefld43_1 _ _ w)) ?_
          refine TL.on rfl rfl rfl ?_
          refine TL.val rfl rfl rfl (pm_load (k := 0) (i := 1) rfl rfl breag3 rfl rfl) ?_
          refine TL.on rfl rfl rfl ?_
          refine TL.val rfl rfl rfl (gives_field (v := .pointer (some ⟨g8, 0, none⟩)) rfl rfl (fun w => brefld45_0 _ _ w)) ?_
          refine TL.on rfl rfl rfl ?_
          refine TL.val rfl rfl rfl (gives_field (v := .pointer (some ⟨g8, 1, none⟩)) rfl rfl (fun w => brefld43_1 _ _ w)) ?_
          refine TL.on rfl rfl rfl ?_
          refine TL.val rfl rfl rfl (pm_load (k := 1) (i := 1) rfl rfl breag3 rfl rfl) ?_
          refine TL.on rfl rfl rfl ?_
          refine TL.vsplit rfl rfl rfl (gives_bin rfl rfl rfl (fun w => bin_gtr w)) (fun h39 => ?_) (fun h39 => ?_)
          · have q39 := of_decide_eq_true h39
            refine TL.on rfl rfl rfl ?_
            refine TL.val rfl rfl rfl (gives_pick rfl rfl rfl) ?_
            refine TL.val rfl rfl rfl (gives_pick rfl rfl rfl) ?_
            refine TL.val rfl rfl rfl (gives_move rfl rfl) ?_
            refine TL.on rfl rfl rfl ?_
            refine TL.val rfl rfl rfl (gives_field (v := .pointer (some ⟨g11, 0, none⟩)) rfl rfl (fun w => brefld45_0 _ _ w)) ?_
            refine TL.on rfl rfl rfl ?_
            refine TL.val rfl rfl rfl (pm_loadV (k := 0) (i := 0) (n := 2) (v := .agg #[.int .u32 x17.addr, .int .i64 x17.len]) rfl rfl breag43 bresz43 rfl (by show 2 ≤ 5; decide) rfl) ?_
            refine TL.on rfl rfl rfl ?_
            refine TL.val rfl rfl rfl (gives_move rfl rfl) ?_
            refine TL.on rfl rfl rfl ?_
            refine TL.callsplit rfl rfl rfl rfl rfl Try.func45 brenm45 brebd45 (fun w1 hw => hasP_any x17.addr x17.len a w1) (fun h46 => ?_) (fun h46 => ?_)
            · refine TL.val rfl rfl rfl (gives_pick rfl rfl rfl) ?_
              refine TL.end_ ?_
              refine TX.then_ ?_
              refine TC.condT rfl ?_
              refine TC.region ?_
              refine TL.val rfl rfl rfl (pm_loadV (k := 0) (i := 0) (n := 5) (v := .agg (x17.cells).toArray) rfl rfl breag45 bresz45 rfl (by show 5 ≤ 5; decide) rfl) ?_
              refine TL.pstore (k := 1) (vs := x17.cells) rfl rfl rfl rfl rfl rfl rfl bresz45 (en_cel.one _) (by show 5 ≤ 5; decide) (L' := [.blk g11 45 x17.cells, .blk g8 45 x17.cells, .blk g6 45 En.zero.cells, .blk g3 34 [.slice A0 es.length c0]]) rfl ?_
              refine TL.val rfl rfl rfl (gives_assign rfl rfl) ?_
              refine TL.end_ ?_
              refine TX.in_normal ?_
              refine TX.then_ ?_
              refine TC.region ?_
              refine TL.val rfl rfl rfl (gives_bin rfl rfl rfl (fun w => bin_add_ (r := ((i + 1 : Nat) : Int)) (by simp only [IntKind.wrap_i64]; omega) w)) ?_
              refine TL.val rfl rfl rfl (gives_move rfl rfl) ?_
              refine TL.end_ ?_
              exact TX.round (⟨(i + 1, x17, true), by dsimp only; omega, by rw [lookR_snoc hx17 hst, if_pos (by simp [fitsE, q16, q22, q27, q39, h46])]⟩) (by show es.length - (i + 1) < es.length - i; omega) ⟨rfl, rfl, rfl, rfl, rfl, rfl, rfl, rfl, trivial⟩ (fun w1 hw => hw.pick [1, 2, 3] (by decide) rfl)
            · refine TL.val rfl rfl rfl (gives_pick rfl rfl rfl) ?_
              refine TL.end_ ?_
              refine TX.then_ ?_
              refine TC.condF rfl ?_
              refine TC.skip_ ?_
              refine TX.in_normal ?_
              refine TX.then_ ?_
              refine TC.region ?_
              refine TL.val rfl rfl rfl (gives_bin rfl rfl rfl (fun w => bin_add_ (r := ((i + 1 : Nat) : Int)) (by simp only [IntKind.wrap_i64]; omega) w)) ?_
              refine TL.val rfl rfl rfl (gives_move rfl rfl) ?_
              refine TL.end_ ?_
              exact TX.round (⟨(i + 1, bst, true), by dsimp only; omega, by rw [lookR_snoc hx17 hst, if_neg (by simp [fitsE, q16, q22, q27, q39, h46])]⟩) (by show es.length - (i + 1) < es.length - i; omega) ⟨rfl, rfl, rfl, rfl, rfl, rfl, rfl, rfl, trivial⟩ (fun w1 hw => hw.pick [1, 2, 3] (by decide) rfl)
          · have q39 := of_decide_eq_false h39
            refine TL.on rfl rfl rfl ?_
            refine TL.val rfl rfl rfl (gives_pick rfl rfl rfl) ?_
            refine TL.val rfl rfl rfl (gives_pick rfl rfl rfl) ?_
            refine TL.val rfl rfl rfl (gives_move rfl rfl) ?_
            refine TL.off rfl rfl rfl rfl rfl rfl ?_
            refine TL.off rfl rfl rfl rfl rfl rfl ?_
            refine TL.off rfl rfl rfl rfl rfl rfl ?_
            refine TL.off rfl rfl rfl rfl rfl rfl ?_
            refine TL.val rfl rfl rfl (gives_pick rfl rfl rfl) ?_
            refine TL.end_ ?_
            refine TX.then_ ?_
            refine TC.condF rfl ?_
            refine TC.skip_ ?_
            refine TX.in_normal ?_
            refine TX.then_ ?_
            refine TC.region ?_
            refine TL.val rfl rfl rfl (gives_bin rfl rfl rfl (fun w => bin_add_ (r := ((i + 1 : Nat) : Int)) (by simp only [IntKind.wrap_i64]; omega) w)) ?_
            refine TL.val rfl rfl rfl (gives_move rfl rfl) ?_
            refine TL.end_ ?_
            exact TX.round (⟨(i + 1, bst, true), by dsimp only; omega, by rw [lookR_snoc hx17 hst, if_neg (by simp [fitsE, q16, q22, q27, q39])]⟩) (by show es.length - (i + 1) < es.length - i; omega) ⟨rfl, rfl, rfl, rfl, rfl, rfl, rfl, rfl, trivial⟩ (fun w1 hw => hw.pick [1, 2, 3] (by decide) rfl)
        · have q27 := of_decide_eq_false h27
          refine TL.val rfl rfl rfl (gives_pick rfl rfl rfl) ?_
          refine TL.val rfl rfl rfl (gives_move rfl rfl) ?_
          refine TL.off rfl rfl rfl rfl rfl rfl ?_
          refine TL.off rfl rfl rfl rfl rfl rfl ?_
          refine TL.off rfl rfl rfl rfl rfl rfl ?_
          refine TL.offU rfl rfl rfl rfl rfl ?_
          refine TL.offU rfl rfl rfl rfl rfl ?_
          refine TL.offU rfl rfl rfl rfl rfl ?_
          refine TL.offU rfl rfl rfl rfl rfl ?_
          refine TL.offU rfl rfl rfl rfl rfl ?_
          refine TL.offU rfl rfl rfl rfl rfl ?_
          refine TL.offU rfl rfl rfl rfl rfl ?_
          refine TL.off rfl rfl rfl rfl rfl rfl ?_
          refine TL.val rfl rfl rfl (gives_pick rfl rfl rfl) ?_
          refine TL.val rfl rfl rfl (gives_move rfl rfl) ?_
          refine TL.off rfl rfl rfl rfl rfl rfl ?_
          refine TL.off rfl rfl rfl rfl rfl rfl ?_
          refine TL.off rfl rfl rfl rfl rfl rfl ?_
          refine TL.off rfl rfl rfl rfl rfl rfl ?_
          refine TL.val rfl rfl rfl (gives_pick rfl rfl rfl) ?_
          refine TL.end_ ?_
          refine TX.then_ ?_
          refine TC.condF rfl ?_
          refine TC.skip_ ?_
          refine TX.in_normal ?_
          refine TX.then_ ?_
          refine TC.region ?_
          refine TL.val rfl rfl rfl (gives_bin rfl rfl rfl (fun w => bin_add_ (r := ((i + 1 : Nat) : Int)) (by simp only [IntKind.wrap_i64]; omega) w)) ?_
          refine TL.val rfl rfl rfl (gives_move rfl rfl) ?_
          refine TL.end_ ?_
          exact TX.round (⟨(i + 1, bst, true), by dsimp only; omega, by rw [lookR_snoc hx17 hst, if_neg (by simp [fitsE, q16, q22, q27])]⟩) (by show es.length - (i + 1) < es.length - i; omega) ⟨rfl, rfl, rfl, rfl, rfl, rfl, rfl, rfl, trivial⟩ (fun w1 hw => hw.pick [1, 2, 3] (by decide) rfl)
      · have q22 := of_decide_eq_false h22
        refine TL.val rfl rfl rfl (gives_move rfl rfl) ?_
        refine TL.off rfl rfl rfl rfl rfl rfl ?_
        refine TL.off rfl rfl rfl rfl rfl rfl ?_
        refine TL.off rfl rfl rfl rfl rfl rfl ?_
        refine TL.off rfl rfl rfl rfl rfl rfl ?_
        refine TL.val rfl rfl rfl (gives_pick rfl rfl rfl) ?_
        refine TL.val rfl rfl rfl (gives_move rfl rfl) ?_
        refine TL.off rfl rfl rfl rfl rfl rfl ?_
        refine TL.off rfl rfl rfl rfl rfl rfl ?_
        refine TL.off rfl rfl rfl rfl rfl rfl ?_
        refine TL.offU rfl rfl rfl rfl rfl ?_
        refine TL.offU rfl rfl rfl rfl rfl ?_
        refine TL.offU rfl rfl rfl rfl rfl ?_
        refine TL.offU rfl rfl rfl rfl rfl ?_
        refine TL.offU rfl rfl rfl rfl rfl ?_
        refine TL.offU rfl rfl rfl rfl rfl ?_
        refine TL.offU rfl rfl rfl rfl rfl ?_
        refine TL.off rfl rfl rfl rfl rfl rfl ?_
        refine TL.val rfl rfl rfl (gives_pick rfl rfl rfl) ?_
        refine TL.val rfl rfl rfl (gives_move rfl rfl) ?_
        refine TL.off rfl rfl rfl rfl rfl rfl ?_
        refine TL.off rfl rfl rfl rfl rfl rfl ?_
        refine TL.off rfl rfl rfl rfl rfl rfl ?_
        refine TL.off rfl rfl rfl rfl rfl rfl ?_
        refine TL.val rfl rfl rfl (gives_pick rfl rfl rfl) ?_
        refine TL.end_ ?_
        refine TX.then_ ?_
        refine TC.condF rfl ?_
        refine TC.skip_ ?_
        refine TX.in_normal ?_
        refine TX.then_ ?_
        refine TC.region ?_
        refine TL.val rfl rfl rfl (gives_bin rfl rfl rfl (fun w => bin_add_ (r := ((i + 1 : Nat) : Int)) (by simp only [IntKind.wrap_i64]; omega) w)) ?_
        refine TL.val rfl rfl rfl (gives_move rfl rfl) ?_
        refine TL.end_ ?_
        exact TX.round (⟨(i + 1, bst, true), by dsimp only; omega, by rw [lookR_snoc hx17 hst, if_neg (by simp [fitsE, q16, q22])]⟩) (by show es.length - (i + 1) < es.length - i; omega) ⟨rfl, rfl, rfl, rfl, rfl, rfl, rfl, rfl, trivial⟩ (fun w1 hw => hw.pick [1, 2, 3] (by decide) rfl)
    | false =>
      refine TC.region ?_
      refine TL.val rfl rfl rfl (gives_field (v := .pointer (some ⟨g11, 3, none⟩)) rfl rfl (fun w => brefld45_2 _ _ w)) ?_
      refine TL.val rfl rfl rfl (pm_load (k := 0) (i := 3) rfl rfl breag3 rfl rfl) ?_
      refine TL.val rfl rfl rfl (gives_move rfl rfl) ?_
      refine TL.vsplit rfl rfl rfl (gives_bin rfl rfl rfl (fun w => bin_leq w)) (fun h22 => ?_) (fun h22 => ?_)
      · have q22 := of_decide_eq_true h22
        refine TL.val rfl rfl rfl (gives_move rfl rfl) ?_
        refine TL.on rfl rfl rfl ?_
        refine TL.val rfl rfl rfl (gives_move rfl rfl) ?_
        refine TL.on rfl rfl rfl ?_
        refine TL.val rfl rfl rfl (gives_field (v := .pointer (some ⟨g11, 4, none⟩)) rfl rfl (fun w => brefld45_3 _ _ w)) ?_
        refine TL.on rfl rfl rfl ?_
        refine TL.val rfl rfl rfl (pm_load (k := 0) (i := 4) rfl rfl breag3 rfl rfl) ?_
        refine TL.on rfl rfl rfl ?_
        refine TL.vsplit rfl rfl rfl (gives_bin rfl rfl rfl (fun w => bin_lss w)) (fun h27 => ?_) (fun h27 => ?_)
        · have q27 := of_decide_eq_true h27
          refine TL.val rfl rfl rfl (gives_pick rfl rfl rfl) ?_
          refine TL.val rfl rfl rfl (gives_move rfl rfl) ?_
          refine TL.on rfl rfl rfl ?_
          refine TL.val rfl rfl rfl (gives_move rfl rfl) ?_
          refine TL.on rfl rfl rfl ?_
          refine TL.val rfl rfl rfl (gives_boolnot rfl rfl) ?_
          refine TL.on rfl rfl rfl ?_
          refine TL.val rfl rfl rfl (gives_move rfl rfl) ?_
          refine TL.off rfl rfl rfl rfl rfl rfl ?_
          refine TL.off rfl rfl rfl rfl rfl rfl ?_
          refine TL.off rfl rfl rfl rfl rfl rfl ?_
          refine TL.off rfl rfl rfl rfl rfl rfl ?_
          refine TL.off rfl rfl rfl rfl rfl rfl ?_
          refine TL.off rfl rfl rfl rfl rfl rfl ?_
          refine TL.off rfl rfl rfl rfl rfl rfl ?_
          refine TL.on rfl rfl rfl ?_
          refine TL.val rfl rfl rfl (gives_pick rfl rfl rfl) ?_
          refine TL.val rfl rfl rfl (gives_pick rfl rfl rfl) ?_
          refine TL.val rfl rfl rfl (gives_move rfl rfl) ?_
          refine TL.on rfl rfl rfl ?_
          refine TL.val rfl rfl rfl (gives_field (v := .pointer (some ⟨g11, 0, none⟩)) rfl rfl (fun w => brefld45_0 _ _ w)) ?_
          refine TL.on rfl rfl rfl ?_
          refine TL.val rfl rfl rfl (pm_loadV (k := 0) (i := 0) (n := 2) (v := .agg #[.int .u32 x17.addr, .int .i64 x17.len]) rfl rfl breag43 bresz43 rfl (by show 2 ≤ 5; decide) rfl) ?_
          refine TL.on rfl rfl rfl ?_
          refine TL.val rfl rfl rfl (gives_move rfl rfl) ?_
          refine TL.on rfl rfl rfl ?_
          refine TL.callsplit rfl rfl rfl rfl rfl Try.func45 brenm45 brebd45 (fun w1 hw => hasP_any x17.addr x17.len a w1) (fun h46 => ?_) (fun h46 => ?_)
          · refine TL.val rfl rfl rfl (gives_pick rfl rfl rfl) ?_
            refine TL.end_ ?_
            refine TX.then_ ?_
            refine TC.condT rfl ?_
            refine TC.region ?_
            refine TL.val rfl rfl rfl (pm_loadV (k := 0) (i := 0) (n := 5) (v := .agg (x17.cells).toArray) rfl rfl breag45 bresz45 rfl (by show 5 ≤ 5; decide) rfl) ?_
            refine TL.pstore (k := 1) (vs := x17.cells) rfl rfl rfl rfl rfl rfl rfl bresz45 (en_cel.one _) (by show 5 ≤ 5; decide) (L' := [.blk g11 45 x17.cells, .blk g8 45 x17.cells, .blk g6 45 En.zero.cells, .blk g3 34 [.slice A0 es.length c0]]) rfl ?_
            refine TL.val rfl rfl rfl (gives_assign rfl rfl) ?_
            refine TL.end_ ?_
            refine TX.in_normal ?_
            refine TX.then_ ?_
            refine TC.region ?_
            refine TL.val rfl rfl rfl (gives_bin rfl rfl rfl (fun w => bin_add_ (r := ((i + 1 : Nat) : Int)) (by simp only [IntKind.wrap_i64]; omega) w)) ?_
            refine TL.val rfl rfl rfl (gives_move rfl rfl) ?_
            refine TL.end_ ?_
            exact TX.round (⟨(i + 1, x17, true), by dsimp only; omega, by rw [lookR_snoc hx17 hst, if_pos (by simp [fitsE, q16, q22, q27, h46])]⟩) (by show es.length - (i + 1) < es.length - i; omega) ⟨rfl, rfl, rfl, rfl, rfl, rfl, rfl, rfl, trivial⟩ (fun w1 hw => hw.pick [1, 2, 3] (by decide) rfl)
          · refine TL.val rfl rfl rfl (gives_pick rfl rfl rfl) ?_
            refine TL.end_ ?_
            refine TX.then_ ?_
            refine TC.condF rfl ?_
            refine TC.skip_ ?_
            refine TX.in_normal ?_
            refine TX.then_ ?_
            refine TC.region ?_
            refine TL.val rfl rfl rfl (gives_bin rfl rfl rfl (fun w => bin_add_ (r := ((i + 1 : Nat) : Int)) (by simp only [IntKind.wrap_i64]; omega) w)) ?_
            refine TL.val rfl rfl rfl (gives_move rfl rfl) ?_
            refine TL.end_ ?_
            exact TX.round (⟨(i + 1, bst, false), by dsimp only; omega, by rw [lookR_snoc hx17 hst, if_neg (by simp [fitsE, q16, q22, q27, h46])]⟩) (by show es.length - (i + 1) < es.length - i; omega) ⟨rfl, rfl, rfl, rfl, rfl, rfl, rfl, rfl, trivial⟩ (fun w1 hw => hw.pick [1, 2, 3] (by decide) rfl)
        · have q27 := of_decide_eq_false h27
          refine TL.val rfl rfl rfl (gives_pick rfl rfl rfl) ?_
          refine TL.val rfl rfl rfl (gives_move rfl rfl) ?_
          refine TL.off rfl rfl rfl rfl rfl rfl ?_
          refine TL.off rfl rfl rfl rfl rfl rfl ?_
          refine TL.off rfl rfl rfl rfl rfl rfl ?_
          refine TL.offU rfl rfl rfl rfl rfl ?_
          refine TL.offU rfl rfl rfl rfl rfl ?_
          refine TL.offU rfl rfl rfl rfl rfl ?_
          refine TL.offU rfl rfl rfl rfl rfl ?_
          refine TL.offU rfl rfl rfl rfl rfl ?_
          refine TL.offU rfl rfl rfl rfl rfl ?_
          refine TL.offU rfl rfl rfl rfl rfl ?_
          refine TL.off rfl rfl rfl rfl rfl rfl ?_
          refine TL.val rfl rfl rfl (gives_pick rfl rfl rfl) ?_
          refine TL.val rfl rfl rfl (gives_move rfl rfl) ?_
          refine TL.off rfl rfl rfl rfl rfl rfl ?_
          refine TL.off rfl rfl rfl rfl rfl rfl ?_
          refine TL.off rfl rfl rfl rfl rfl rfl ?_
          refine TL.off rfl rfl rfl rfl rfl rfl ?_
          refine TL.val rfl rfl rfl (gives_pick rfl rfl rfl) ?_
          refine TL.end_ ?_
          refine TX.then_ ?_
          refine TC.condF rfl ?_
          refine TC.skip_ ?_
          refine TX.in_normal ?_
          refine TX.then_ ?_
          refine TC.region ?_
          refine TL.val rfl rfl rfl (gives_bin rfl rfl rfl (fun w => bin_add_ (r := ((i + 1 : Nat) : Int)) (by simp only [IntKind.wrap_i64]; omega) w)) ?_
          refine TL.val rfl rfl rfl (gives_move rfl rfl) ?_
          refine TL.end_ ?_
          exact TX.round (⟨(i + 1, bst, false), by dsimp only; omega, by rw [lookR_snoc hx17 hst, if_neg (by simp [fitsE, q16, q22, q27])]⟩) (by show es.length - (i + 1) < es.length - i; omega) ⟨rfl, rfl, rfl, rfl, rfl, rfl, rfl, rfl, trivial⟩ (fun w1 hw => hw.pick [1, 2, 3] (by decide) rfl)
      · have q22 := of_decide_eq_false h22
        refine TL.val rfl rfl rfl (gives_move rfl rfl) ?_
        refine TL.off rfl rfl rfl rfl rfl rfl ?_
        refine TL.off rfl rfl rfl rfl rfl rfl ?_
        refine TL.off rfl rfl rfl rfl rfl rfl ?_
        refine TL.off rfl rfl rfl rfl rfl rfl ?_
        refine TL.val rfl rfl rfl (gives_pick rfl rfl rfl) ?_
        refine TL.val rfl rfl rfl (gives_move rfl rfl) ?_
        refine TL.off rfl rfl rfl rfl rfl rfl ?_
        refine TL.off rfl rfl rfl rfl rfl rfl ?_
        refine TL.off rfl rfl rfl rfl rfl rfl ?_
        refine TL.offU rfl rfl rfl rfl rfl ?_
        refine TL.offU rfl rfl rfl rfl rfl ?_
        refine TL.offU rfl rfl rfl rfl rfl ?_
        refine TL.offU rfl rfl rfl rfl rfl ?_
        refine TL.offU rfl rfl rfl rfl rfl ?_
        refine TL.offU rfl rfl rfl rfl rfl ?_
        refine TL.offU rfl rfl rfl rfl rfl ?_
        refine TL.off rfl rfl rfl rfl rfl rfl ?_
        refine TL.val rfl rfl rfl (gives_pick rfl rfl rfl) ?_
        refine TL.val rfl rfl rfl (gives_move rfl rfl) ?_
        refine TL.off rfl rfl rfl rfl rfl rfl ?_
        refine TL.off rfl rfl rfl rfl rfl rfl ?_
        refine TL.off rfl rfl rfl rfl rfl rfl ?_
        refine TL.off rfl rfl rfl rfl rfl rfl ?_
        refine TL.val rfl rfl rfl (gives_pick rfl rfl rfl) ?_
        refine TL.end_ ?_
        refine TX.then_ ?_
        refine TC.condF rfl ?_
        refine TC.skip_ ?_
        refine TX.in_normal ?_
        refine TX.then_ ?_
        refine TC.region ?_
        refine TL.val rfl rfl rfl (gives_bin rfl rfl rfl (fun w => bin_add_ (r := ((i + 1 : Nat) : Int)) (by simp only [IntKind.wrap_i64]; omega) w)) ?_
        refine TL.val rfl rfl rfl (gives_move rfl rfl) ?_
        refine TL.end_ ?_
        exact TX.round (⟨(i + 1, bst, false), by dsimp only; omega, by rw [lookR_snoc hx17 hst, if_neg (by simp [fitsE, q16, q22])]⟩) (by show es.length - (i + 1) < es.length - i; omega) ⟨rfl, rfl, rfl, rfl, rfl, rfl, rfl, rfl, trivial⟩ (fun w1 hw => hw.pick [1, 2, 3] (by decide) rfl)
  · have q16 := of_decide_eq_false h16
    refine TL.end_ ?_
    refine TX.then_ ?_
    refine TC.seq_ ?_
    refine TC.condF rfl ?_
    refine TC.exit_ ?_
    refine TX.then_exit ?_
    refine TX.then_exit ?_
    refine TX.in_same ?_
    refine TX.then_ ?_
    refine TC.seq_ ?_
    refine TC.region ?_
    refine TL.val rfl rfl rfl (pm_loadV (k := 0) (i := 0) (n := 5) (v := .agg (bst.cells).toArray) rfl rfl breag45 bresz45 rfl (by show 5 ≤ 5; decide) rfl) ?_
    refine TL.val rfl rfl rfl (gives_move rfl rfl) ?_
    refine TL.pstore (k := 1) (vs := bst.cells) rfl rfl rfl rfl rfl rfl rfl bresz45 (en_cel.one _) (by show 5 ≤ 5; decide) (L' := [.blk g8 45 bst.cells, .blk g6 45 bst.cells, .blk g3 34 [.slice A0 es.length c0]]) rfl ?_
    refine TL.val rfl rfl rfl (gives_assign rfl rfl) ?_
    refine TL.end_ ?_
    refine TX.then_ ?_
    refine TC.ret_ ?_
    have hE : lookR es a t = (bst, fnd) := by rw [List.take_of_length_le (by omega)] at hst; exact hst
    exact ret_cell2 (k := 1) (v := .bool fnd) Try.results37 rfl rfl rfl Try.underlying45 rfl rfl (fun w1 hw => ⟨by rw [hE], hw.bel⟩)
set_option maxHeartbeats 1000000 in
theorem lookV_any (A0 : Option Addr) (c0 : Nat) (es : List En) (a t : Int) (w : World) (hr : Reads w w.heap.size 5 A0 es.length (flat En.cells es)) :
    Calls Try.prog 27 #[.agg #[.slice A0 es.length c0], .int .u32 a, .int .i64 t] w fun e w' => e = .returned (.tuple #[.agg (lookV es a t).1.cells.toArray, .bool (lookV es a t).2]) ∧ Below w.heap.size w w' := by
  refine begin_ (vs := [.agg #[.slice A0 es.length c0], .int .u32 a, .int .i64 t]) Try.func27 rfl rfl rfl ?_ (Pm.start w)
  refine TC.seq_ ?_
  refine TC.region ?_
  refine TL.pnew rfl rfl rfl (exec_box (cs := [.slice A0 es.length c0]) rfl rfl rfl) (fun g3 => ?_)
  refine TL.pnew rfl rfl rfl (exec_alloc (cs := [.int .u32 0, .int .i64 0, .int .i64 0, .int .i64 0, .int .i64 0]) rfl brezv45 rfl) (fun g6 => ?_)
  refine TL.val rfl rfl rfl (gives_assign rfl rfl) ?_
  refine TL.end_ ?_
  refine TX.then_ ?_
  refine TC.seq_ ?_
  refine TC.seq_ ?_
  refine TC.region ?_
  refine TL.val rfl rfl rfl (pm_loadV (k := 1) (i := 0) (n := 1) (v := .agg #[.slice A0 es.length c0]) rfl rfl breag34 bresz34 rfl (by show 1 ≤ 1; decide) rfl) ?_
  refine TL.callsplit rfl rfl rfl rfl rfl Try.func36 brenm36 brebd36 (fun w1 hw => validR_any A0 c0 es w1 (hr.up hw.bel)) (fun h9 => ?_) (fun h9 => ?_)
  · refine TL.val rfl rfl rfl (gives_boolnot rfl rfl) ?_
    refine TL.end_ ?_
    refine TX.then_ ?_
    refine TC.condF rfl ?_
    refine TC.skip_ ?_
    refine TX.then_ ?_
    refine TC.seq_ ?_
    refine TC.region ?_
    refine TL.val rfl rfl rfl (pm_loadV (k := 1) (i := 0) (n := 1) (v := .agg #[.slice A0 es.length c0]) rfl rfl breag34 bresz34 rfl (by show 1 ≤ 1; decide) rfl) ?_
    refine TL.val rfl rfl rfl (gives_move rfl rfl) ?_
    refine TL.val rfl rfl rfl (gives_move rfl rfl) ?_
    refine TL.pcall1 (r := .tuple #[.agg ((lookR es a t).1.cells).toArray, .bool ((lookR es a t).2)]) rfl rfl rfl rfl rfl Try.func37 brenm37 brebd37 (fun w1 hw => lookR_any A0 c0 es a t w1 (hr.up hw.bel) (Nat.le_trans (validR_len h9) (by decide))) ?_
    refine TL.val rfl rfl rfl (gives_extract rfl rfl rfl) ?_
    refine TL.val rfl rfl rfl (gives_extract rfl rfl rfl) ?_
    refine TL.pstore (k := 0) (vs := (lookR es a t).1.cells) rfl rfl rfl rfl rfl rfl rfl bresz45 (en_cel.one _) (by show 5 ≤ 5; decide) (L' := [.blk g6 45 (lookR es a t).1.cells, .blk g3 34 [.slice A0 es.length c0]]) rfl ?_
    refine TL.val rfl rfl rfl (gives_assign rfl rfl) ?_
    refine TL.end_ ?_
    refine TX.then_ ?_
    refine TC.ret_ ?_
    have hE : lookV es a t = lookR es a t := if_pos h9
    exact ret_cell2 (k := 0) (v := .bool ((lookR es a t).2)) Try.results27 rfl rfl rfl Try.underlying45 rfl rfl (fun w1 hw => ⟨by rw [hE], hw.bel⟩)
  · refine TL.val rfl rfl rfl (gives_boolnot rfl rfl) ?_
    refine TL.end_ ?_
    refine TX.then_ ?_
    refine TC.condT rfl ?_
    refine TC.seq_ ?_
    refine TC.region ?_
    refine TL.val rfl rfl rfl (gives_build (v := .agg #[.int .u32 0, .int .i64 0, .int .i64 0, .int .i64 0, .int .i64 0]) rfl rfl (fun w => brebld45_530  w)) ?_
    refine TL.pstore (k := 0) (vs := [.int .u32 0, .int .i64 0, .int .i64 0, .int .i64 0, .int .i64 0]) rfl rfl rfl rfl rfl rfl rfl bresz45 breone_u32i64i64i64i64 (by show 5 ≤ 5; decide) (L' := [.blk g6 45 [.int .u32 0, .int .i64 0, .int .i64 0, .int .i64 0, .int .i64 0], .blk g3 34 [.slice A0 es.length c0]]) rfl ?_
    refine TL.val rfl rfl rfl (gives_assign rfl rfl) ?_
    refine TL.end_ ?_
    refine TX.then_ ?_
    refine TC.ret_ ?_
    refine TX.then_ret ?_
    have hE : lookV es a t = (En.zero, false) := if_neg (by rw [h9]; decide)
    exact ret_cell2 (k := 0) (v := .bool false) Try.results27 rfl rfl rfl Try.underlying45 rfl rfl (fun w1 hw => ⟨by rw [hE]; rfl, hw.bel⟩)
set_option maxHeartbeats 1000000 in
theorem prov_any (A0 : Option Addr) (c0 : Nat) (es : List En) (a t : Int) (w : World) (hr : Reads w w.heap.size 5 A0 es.length (flat En.cells es)) :
    Calls Try.prog 20 #[.agg #[.slice A0 es.length c0], .int .u32 a, .int .i64 t] w fun e w' => e = .returned (.int .i64 (provR es a t)) ∧ Below w.heap.size w w' := by
  refine begin_ (vs := [.agg #[.slice A0 es.length c0], .int .u32 a, .int .i64 t]) Try.func20 rfl rfl rfl ?_ (Pm.start w)
  refine TC.seq_ ?_
  refine TC.region ?_
  refine TL.pnew rfl rfl rfl (exec_box (cs := [.slice A0 es.length c0]) rfl rfl rfl) (fun g3 => ?_)
  refine TL.val rfl rfl rfl (gives_assign rfl rfl) ?_
  refine TL.end_ ?_
  refine TX.then_ ?_
  refine TC.seq_ ?_
  refine TC.region ?_
  refine TL.val rfl rfl rfl (pm_loadV (k := 0) (i := 0) (n := 1) (v := .agg #[.slice A0 es.length c0]) rfl rfl breag34 bresz34 rfl (by show 1 ≤ 1; decide) rfl) ?_
  refine TL.val rfl rfl rfl (gives_move rfl rfl) ?_
  refine TL.val rfl rfl rfl (gives_move rfl rfl) ?_
  refine TL.pcall1 (r := .tuple #[.agg ((lookV es a t).1.cells).toArray, .bool ((lookV es a t).2)]) rfl rfl rfl rfl rfl Try.func27 brenm27 brebd27 (fun w1 hw => lookV_any A0 c0 es a t w1 (hr.up hw.bel)) ?_
  refine TL.val rfl rfl rfl (gives_move rfl rfl) ?_
  refine TL.val rfl rfl rfl (gives_extract rfl rfl rfl) ?_
  refine TL.val rfl rfl rfl (gives_extract rfl rfl rfl) ?_
  refine TL.pnew rfl rfl rfl (exec_alloc (cs := [.int .u32 0, .int .i64 0, .int .i64 0, .int .i64 0, .int .i64 0]) rfl brezv45 rfl) (fun g7 => ?_)
  refine TL.pstore (k := 0) (vs := (lookV es a t).1.cells) rfl rfl rfl rfl rfl rfl rfl bresz45 (en_cel.one _) (by show 5 ≤ 5; decide) (L' := [.blk g7 45 (lookV es a t).1.cells, .blk g3 34 [.slice A0 es.length c0]]) rfl ?_
  refine TL.val rfl rfl rfl (gives_assign rfl rfl) ?_
  refine TL.end_ ?_
  refine TX.then_ ?_
  refine TC.seq_ ?_
  refine TC.region ?_
  refine TL.val rfl rfl rfl (gives_field (v := .pointer (some ⟨g7, 2, none⟩)) rfl rfl (fun w => brefld45_1 _ _ w)) ?_
  refine TL.val rfl rfl rfl (pm_load (k := 0) (i := 2) rfl rfl breag3 rfl rfl) ?_
  refine TL.val rfl rfl rfl (gives_assign rfl rfl) ?_
  refine TL.end_ ?_
  refine TX.then_ ?_
  refine TC.ret_ ?_
  exact ret_tmp Try.results20 rfl (fun w1 hw => ⟨rfl, hw.bel⟩)
end Go.Proofs.Ytmbcclgnjobikaa
