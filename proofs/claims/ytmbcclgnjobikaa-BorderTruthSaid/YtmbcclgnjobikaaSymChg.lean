/-
  A walk by rules: functions that change one block that they are handed (a method on a pointer). No program is imported.
-/
import Derived.Test.YtmbcclgnjobikaaSymCod
namespace Go.Proofs.Ytmbcclgnjobikaa
open Go.RowKit
set_option linter.unusedVariables false
set_option linter.unusedSimpArgs false
structure Chg (g : Nat) (t : TypeId) (cs : List Value) (w : World) (Ln : List Pc) (w' : World) : Prop where
  blk : Blk w' g t cs.toArray
  grown : w.grownBy w' (some g)
  own : ∀ q ∈ Ln, q.ok w.heap.size w'
  apart : Ln.Pairwise fun p q => ∀ g, p.key = some g → q.key ≠ some g
theorem Pm.atBlk {w : World} {g : Nat} {t : TypeId} {cs : List Value} (h : Blk w g t cs.toArray) : Pm ⟨w, g⟩ (.blk g t cs :: oths g w) w := by
  refine ⟨Below.refl _ _, fun q hq => ?_, List.Pairwise.cons (fun q hq g' hg he => ?_) (oths_apart g w), KeepsOthers.refl w, Nat.le_of_lt h.lt⟩
  · rcases List.mem_cons.1 hq with rfl | hq
    · exact ⟨h, Nat.le_refl _⟩
    · obtain ⟨k, o, rfl, h1, h2⟩ := oths_ok hq
      exact ⟨h2, Nat.le_of_lt h1⟩
  · obtain ⟨k, o, rfl, h1, h2⟩ := oths_ok hq
    simp only [Pc.key, Option.some.injEq] at hg he
    omega
theorem Pm.chg {w w1 : World} {g : Nat} {t : TypeId} {cs : List Value} (Ln : List Pc) (h : Pm ⟨w, g⟩ (Ln ++ .blk g t cs :: oths g w) w1) (hna : noAbs Ln = true) : Chg g t cs w Ln w1 := by
  have ha := List.pairwise_append.1 h.apart
  have hb := h.own (.blk g t cs) (List.mem_append_right _ List.mem_cons_self)
  refine ⟨hb.1, h.kept fun q hq => List.mem_append_right _ (List.mem_cons_of_mem _ hq), fun q hq => ?_, ha.1⟩
  refine Pc.up (h.own q (List.mem_append_left _ hq)) (fun g' hg => ?_) (noAbs_at hna q hq)
  rcases Nat.lt_or_ge g' w.heap.size with h1 | h1
  · exfalso
    have hge : g ≤ g' := (Pc.lt (h.own q (List.mem_append_left _ hq)) g' hg).1
    rcases Nat.eq_or_lt_of_le hge with h2 | h2
    · subst h2
      exact ha.2.2 q hq _ List.mem_cons_self g hg rfl
    · obtain ⟨o, ho, hm⟩ := oths_mem h2 h1
      exact ha.2.2 q hq _ (List.mem_cons_of_mem _ hm) g' hg rfl
  · exact h1
section
variable {P : Program} {N : Fr} {Q : Exit → Act → World → Prop} {E : Env} {w0 : Base} {L : List Pc} {ops : Array Oper} {l : List Oper} {o : Oper}
theorem Pm.adds {w w' : World} {L L' : List Pc} (h : Pm w0 L' w') (hb : w0.b ≤ w.heap.size) (hk : ∀ q ∈ L', ∀ g, q.key = some g → g < w.heap.size) (ho : ∀ q ∈ L, q.ok w.heap.size w') (ha : L.Pairwise fun p q => ∀ g, p.key = some g → q.key ≠ some g) (hna : noAbs L = true) : Pm w0 (L ++ L') w' := by
  refine ⟨h.bel, fun q hq => ?_, List.pairwise_append.2 ⟨ha, h.apart, fun q hq r hr g hg hgr => ?_⟩, h.oth, h.low⟩
  · rcases List.mem_append.1 hq with hq | hq
    · exact Pc.mono (ho q hq) hb (noAbs_at hna q hq)
    · exact h.own q hq
  · have h1 := (Pc.lt (ho q hq) g hg).1
    have h2 := hk r hr g hgr
    omega
theorem Pm.chgs {w w' : World} {k g : Nat} {t : TypeId} {cs cs' : List Value} {Ln : List Pc} (h : Pm w0 L w) (hk : L[k]? = some (.blk g t cs)) (hc : Chg g t cs' w Ln w') (hna : noAbs Ln = true) : Pm w0 (Ln ++ L.set k (.blk g t cs')) w' := by
  have hp := h.at_ hk
  have h2 : Pm w0 (L.set k (.blk g t cs')) w' := h.turn hk hc.grown ⟨hc.blk, hp.2⟩ (fun g' hg' => .inl hg') (fun _ _ e => by cases e)
  refine h2.adds (w := w) h.base (fun q hq g' hg' => ?_) hc.own hc.apart hna
  rcases List.mem_or_eq_of_mem_set hq with hq | rfl
  · exact (Pc.lt (h.own q hq) g' hg').2
  · simp only [Pc.key, Option.some.injEq] at hg'
    subst hg'
    exact hp.1.lt
/-- a call that changes block number k -/
theorem TL.pcallChg {α : Type} {k g d : Nat} {t : TypeId} {cs : List Value} {f : FuncId} {fn : Func} {xs : List Operand} {ts : Array TypeId} {vs : List Value} (r : α → Value) (cs' : α → List Value) (Ln : α → List Pc) (hg : o.guard = none) (hd : o.dst = some d) (hN : Nat.blt d N.n = true)
    (ho : o.op = .call { callee := .value (.func f), args := xs.toArray, argTypes := ts }) (hx : evs E xs = some vs) (hf : P.funcs[f]? = some fn) (hn : (fn.name == "runtime.NumGoroutine") = false) (hb : fn.body.isNone = false)
    (hk : L[k]? = some (.blk g t cs)) (hc : ∀ w, Pm w0 L w → Calls P f vs.toArray w fun en w' => ∃ x, en = .returned (r x) ∧ Chg g t (cs' x) w (Ln x) w')
    (h : ∀ x, TL P N ops Q l ((d, r x) :: E) (Pm w0 (Ln x ++ L.set k (.blk g t (cs' x))))) (hna : ∀ x, noAbs (Ln x) = true := by intro x; rfl) : TL P N ops Q (o :: l) E (Pm w0 L) :=
  TL.call (α := α) (r := r) (I' := fun x => Pm w0 (Ln x ++ L.set k (.blk g t (cs' x)))) hg hd hN ho hx hf hn hb (fun w hw => (hc w hw).mono fun en w' ⟨x, he, h2⟩ => ⟨x, he, hw.chgs hk h2 (hna x)⟩) h
/-- such a call whose result goes nowhere -/
theorem TL.pcallChg0 {α : Type} {k g : Nat} {t : TypeId} {cs : List Value} {f : FuncId} {fn : Func} {xs : List Operand} {ts : Array TypeId} {vs : List Value} (r : α → Value) (cs' : α → List Value) (Ln : α → List Pc) (hg : o.guard = none) (hd : o.dst = none)
    (ho : o.op = .call { callee := .value (.func f), args := xs.toArray, argTypes := ts }) (hx : evs E xs = some vs) (hf : P.funcs[f]? = some fn) (hn : (fn.name == "runtime.NumGoroutine") = false) (hb : fn.body.isNone = false)
    (hk : L[k]? = some (.blk g t cs)) (hc : ∀ w, Pm w0 L w → Calls P f vs.toArray w fun en w' => ∃ x, en = .returned (r x) ∧ Chg g t (cs' x) w (Ln x) w')
    (h : ∀ x, TL P N ops Q l E (Pm w0 (Ln x ++ L.set k (.blk g t (cs' x))))) (hna : ∀ x, noAbs (Ln x) = true := by intro x; rfl) : TL P N ops Q (o :: l) E (Pm w0 L) := fun a w ha hw =>
  wpList_plain hg fun K hK => by
    unfold Oper.wp
    rw [enters ha ho hx hf hn hb, Oper.upon_enter]
    refine (hc w hw).mono ?_
    rintro e w' ⟨x, rfl, h2⟩
    show K (a.put o.dst _) w'
    rw [hd]
    exact hK _ _ (h x _ _ (ha.put0 _) (hw.chgs hk h2 (hna x)))
theorem ret_none {fn : Func} {I : World → Prop} {R : Ending → World → Prop} (hr : fn.results = #[]) (hR : ∀ w, I w → R (.returned (.tuple #[])) w) (hD : N.ds = [] := by rfl) : TX N (bodyPost P fn R) .ret E I := fun a w ha hw =>
  ⟨ha.defers.trans hD, .tuple #[], results_none hr _ _ _, hR w hw⟩
theorem end_none {fn : Func} {I : World → Prop} {R : Ending → World → Prop} (hr : fn.results = #[]) (hR : ∀ w, I w → R (.returned (.tuple #[])) w) (hD : N.ds = [] := by rfl) : TX N (bodyPost P fn R) .normal E I := fun a w ha hw =>
  bodyPost_end (results_none hr _ _ _) (ha.defers.trans hD) (hR w hw)
theorem gives_nilCheck {x : Operand} {p : Addr} {I : World → Prop} (ho : o.op = .nilCheck x) (hx : ev E x = some (.pointer (some p))) : Gives P N o E I (.pointer (some p)) := fun a w ha _ => by
  unfold execOp; rw [ho]
  simp [ha.eval hx]
end
end Go.Proofs.Ytmbcclgnjobikaa
