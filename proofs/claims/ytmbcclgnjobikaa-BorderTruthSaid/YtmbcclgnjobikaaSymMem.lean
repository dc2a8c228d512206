/-
  A walk by rules: memory of the call's own, one list of cells a block; what was there before is as it was. No program is imported.
-/
import Derived.Test.YtmbcclgnjobikaaSym
import Derived.Laws.CopyRow
import Derived.Deep.LoopGhost
import Derived.Laws.CopyOwn
namespace Go.Proofs.Ytmbcclgnjobikaa
open Go.RowKit
set_option linter.unusedVariables false
set_option linter.unusedSimpArgs false

abbrev Own := List (Nat × TypeId × List Value)
/-- the blocks that the call has made hold these cells; what was there before is as it was -/
structure Mem (w0 : World) (L : Own) (w : World) : Prop where
  bel : Below w0.heap.size w0 w
  own : ∀ x ∈ L, Blk w x.1 x.2.1 x.2.2.toArray ∧ w0.heap.size ≤ x.1
  apart : (L.map (·.1)).Nodup
section
variable {w0 w w' : World} {L : Own}
theorem Mem.at_ (h : Mem w0 L w) {k g : Nat} {t : TypeId} {cs : List Value} (hk : L[k]? = some (g, t, cs)) : Blk w g t cs.toArray ∧ w0.heap.size ≤ g := h.own _ (List.mem_of_getElem? hk)
theorem Mem.cell (h : Mem w0 L w) {k g : Nat} {t : TypeId} {cs : List Value} (hk : L[k]? = some (g, t, cs)) (i : Nat) : w.cell? ⟨g, i, none⟩ = cs[i]? := by
  rw [(h.at_ hk).1.cell i]; simp
theorem Mem.drawn (h : Mem w0 L w) (n : Nat) : Mem w0 L { w with drawn := n } := ⟨⟨h.bel.os, h.bel.tape, h.bel.output, h.bel.size, h.bel.block⟩, h.own, h.apart⟩
theorem Mem.below (h : Mem w0 L w) (hb : Below w.heap.size w w') : Mem w0 L w' :=
  ⟨h.bel.trans (hb.mono h.bel.size), fun x hx => ⟨(h.own x hx).1.below hb (h.own x hx).1.lt, (h.own x hx).2⟩, h.apart⟩
theorem Mem.start (w : World) : Mem w [] w := ⟨Below.refl _ _, (fun x hx => absurd hx List.not_mem_nil), List.nodup_nil⟩
theorem Mem.new (h : Mem w0 L w) (t : TypeId) (cs : List Value) : Mem w0 ((w.heap.size, t, cs) :: L) (w.alloc (.cells cs.toArray t)) := by
  refine ⟨h.bel.alloc h.bel.size _, fun x hx => ?_, ?_⟩
  · rcases List.mem_cons.1 hx with rfl | hx
    · exact ⟨Blk.new _ _ _, h.bel.size⟩
    · exact ⟨(h.own x hx).1.alloc _, (h.own x hx).2⟩
  · simp only [List.map_cons, List.nodup_cons]
    refine ⟨fun hm => ?_, h.apart⟩
    obtain ⟨x, hx, he⟩ := List.mem_map.1 hm
    have := (h.own x hx).1.lt
    omega
/-- block number k of the list holds other cells now -/
def setOwn (L : Own) (k : Nat) (cs : List Value) : Own := L.modify k (fun x => (x.1, x.2.1, cs))
theorem Mem.setRow (h : Mem w0 L w) {k g : Nat} {t : TypeId} {cs : List Value} (hk : L[k]? = some (g, t, cs)) (cs' : List Value) : Mem w0 (setOwn L k cs') (w.setRow g cs'.toArray) := by
  obtain ⟨hb, hg⟩ := h.at_ hk
  have hkeys : (setOwn L k cs').map (·.1) = L.map (·.1) := by
    apply List.ext_getElem?
    intro i
    simp only [setOwn, List.getElem?_map, List.getElem?_modify]
    by_cases e : k = i
    · subst e; simp [hk]
    · simp [e]
  refine ⟨below_setRow h.bel hg _, fun x hx => ?_, by rw [hkeys]; exact h.apart⟩
  obtain ⟨i, hi⟩ := List.getElem?_of_mem hx
  simp only [setOwn, List.getElem?_modify] at hi
  by_cases e : k = i
  · subst e
    simp [hk] at hi
    subst hi
    exact ⟨setRow_heap w g _ _ _ _ hb, hg⟩
  · cases hL : L[i]? with
    | none => simp [hL] at hi
    | some y =>
      simp [hL, e] at hi
      subst hi
      obtain ⟨hy, hyg⟩ := h.own y (List.mem_of_getElem? hL)
      refine ⟨(setRow_other _ _ _ _ ?_).trans hy, hyg⟩
      intro he
      have hn := h.apart
      have h1 : (L.map (·.1))[k]? = some g := by simp [hk]
      have h2 : (L.map (·.1))[i]? = some g := by simp [hL, he]
      exact e ((List.getElem?_inj (by have := (List.getElem?_eq_some_iff.1 h1).1; exact this) hn).1 (h1.trans h2.symm))
end
section
variable {P : Program} {N : Fr} {Q : Exit → Act → World → Prop} {E : Env} {w0 : World} {L : Own} {ops : Array Oper} {l : List Oper} {o : Oper}
theorem TL.new {d : Nat} {t : TypeId} {cs : List Value} (hg : o.guard = none) (hd : o.dst = some d) (hN : Nat.blt d N.n = true)
    (hr : ∀ a w, EnvOk N E a → (execOp a.eval o).run P w = .ok (.value (.pointer (some ⟨w.heap.size, 0, none⟩))) (w.alloc (.cells cs.toArray t)))
    (h : ∀ g, TL P N ops Q l ((d, .pointer (some ⟨g, 0, none⟩)) :: E) (Mem w0 ((g, t, cs) :: L))) : TL P N ops Q (o :: l) E (Mem w0 L) := fun a w ha hw =>
  wpList_plain hg fun K hK => by
    unfold Oper.wp
    rw [hr a w ha]
    show K (a.put o.dst _) _
    rw [hd]
    exact hK _ _ (h _ _ _ (ha.put d _ (by simpa [Nat.blt_eq] using hN)) (hw.new t cs))
theorem run_newVar {t : TypeId} {v : Value} (w : World) : (newVar t v).run P w = .ok ⟨w.heap.size, 0, none⟩ (w.alloc (.cells v.cells t)) := rfl
theorem exec_alloc {t : TypeId} {z : Value} {cs : List Value} (ho : o.op = .alloc t) (hz : ∀ w : World, (zeroValue t).run P w = .ok z w) (hc : z.cells = cs.toArray) (a : Act) (w : World) (ha : EnvOk N E a) :
    (execOp a.eval o).run P w = .ok (.value (.pointer (some ⟨w.heap.size, 0, none⟩))) (w.alloc (.cells cs.toArray t)) := by
  unfold execOp; rw [ho]
  simp only [Instr.alloc, Sem.run_bind, hz, Result.andThen_ok, run_newVar, hc, Sem.run_pure]
theorem exec_box {t : TypeId} {x : Operand} {v : Value} {cs : List Value} (ho : o.op = .box t x) (hx : ev E x = some v) (hc : v.cells = cs.toArray) (a : Act) (w : World) (ha : EnvOk N E a) :
    (execOp a.eval o).run P w = .ok (.value (.pointer (some ⟨w.heap.size, 0, none⟩))) (w.alloc (.cells cs.toArray t)) := by
  unfold execOp; rw [ho]
  simp only [ha.eval hx]
  simp only [Instr.box, Sem.run_bind, Result.andThen_ok, run_newVar, hc, Sem.run_pure]
/-- a store of whatever size into block number k of the list -/
theorem TL.store {t te : TypeId} {x y : Operand} {g off k : Nat} {v : Value} {cs vs : List Value} (hg : o.guard = none) (hd : o.dst = none) (ho : o.op = .store t x y) (hx : ev E x = some (.pointer (some ⟨g, off, none⟩))) (hy : ev E y = some v)
    (hk : L[k]? = some (g, te, cs)) (hv : v.cells = vs.toArray) (hs : ∀ w : World, (sizeOf t).run P w = .ok vs.length w) (h1 : ∀ u ∈ vs, u.oneCell' = true) (hl : off + vs.length ≤ cs.length) {L' : Own} (hL : setOwn L k (cs.take off ++ vs ++ cs.drop (off + vs.length)) = L')
    (h : TL P N ops Q l E (Mem w0 L')) : TL P N ops Q (o :: l) E (Mem w0 L) := fun a w ha hw =>
  wpList_plain hg fun K hK => by
    have hrun : (execOp a.eval o).run P w = .ok .skip (w.setRow g (cs.take off ++ vs ++ cs.drop (off + vs.length)).toArray) := by
      unfold execOp; rw [ho]
      simp only [ha.eval hx, ha.eval hy]
      have hst := run_storeCells_at (P := P) g off te vs 0 cs.toArray w (hw.at_ hk).1 (by simpa using hl) h1
      simp only [Nat.add_zero] at hst
      have hsv : (storeVar t ⟨g, off, none⟩ v).run P w = .ok () (w.setRow g (cs.take off ++ vs ++ cs.drop (off + vs.length)).toArray) := by
        unfold storeVar
        simp only [Sem.run_bind, hs, Result.andThen_ok, hv]
        simpa [Result.andThen] using hst
      simp only [Instr.storeAt, Instr.sureAddr, Sem.run_bind, Sem.run_pure, Result.andThen_ok, hsv]
    unfold Oper.wp
    rw [hrun]
    show K (a.put o.dst undef) _
    rw [hd]
    exact hK _ _ (h _ _ (ha.put0 _) (hL ▸ hw.setRow hk _))
/-- one cell of block number k of the list -/
theorem mem_load {t te : TypeId} {x : Operand} {g i k : Nat} {v : Value} {cs : List Value} (ho : o.op = .load t x) (hx : ev E x = some (.pointer (some ⟨g, i, none⟩))) (hag : ∀ w : World, (isAgg t).run P w = .ok false w)
    (hk : L[k]? = some (g, te, cs)) (hi : cs[i]? = some v) : Gives P N o E (Mem w0 L) v := gives_load ho hx hag fun w hw => (hw.cell hk i).trans hi
/-- a struct or an array out of block number k of the list -/
theorem mem_loadAgg {t te : TypeId} {x : Operand} {g i k n : Nat} {cs : List Value} (ho : o.op = .load t x) (hx : ev E x = some (.pointer (some ⟨g, i, none⟩))) (hag : ∀ w : World, (isAgg t).run P w = .ok true w) (hs : ∀ w : World, (sizeOf t).run P w = .ok n w)
    (hk : L[k]? = some (g, te, cs)) (hi : i + n ≤ cs.length) : Gives P N o E (Mem w0 L) (.agg ((cs.drop i).take n).toArray) := fun a w ha hw => by
  unfold execOp; rw [ho]
  simp only [ha.eval hx]
  have hlen : ((cs.drop i).take n).length = n := by simp; omega
  have hl := run_loadCells_list (P := P) w ⟨g, i, none⟩ ((cs.drop i).take n) (fun j v hj => by
    have hadd : (⟨g, i, none⟩ : Addr).add j = ⟨g, i + j, none⟩ := by unfold Addr.add; split <;> simp_all
    rw [hadd, hw.cell hk (i + j)]
    simp only [List.getElem?_take, List.getElem?_drop] at hj
    split at hj
    · exact hj
    · cases hj)
  rw [hlen] at hl
  simp only [Instr.loadAt, Instr.sureAddr, Sem.run_bind, Sem.run_pure, Result.andThen_ok, loadVar, hag, hs, hl, if_true]
theorem ret_cell {fn : Func} {p : Tmp} {t te : TypeId} {g k : Nat} {cs : List Value} {d : TypeDesc} {R : Ending → World → Prop} (hr : fn.results = #[.cell p t]) (hp : look E p = some (.pointer (some ⟨g, 0, none⟩))) (hk : L[k]? = some (g, te, cs))
    (hu : P.underlying t = some d) (hd : (match d with | .struct _ | .array _ _ => true | _ => false) = true) (hi : (P.info? t).map (·.size) = some cs.length) (hR : ∀ w, Mem w0 L w → R (.returned (.agg cs.toArray)) w) (hD : N.ds = [] := by rfl) :
    ∀ a w, EnvOk N E a → Mem w0 L w → bodyPost P fn R .ret a w := fun a w ha hw =>
  ⟨ha.defers.trans hD, .agg cs.toArray, results_cell_row hr a.tmps w g te cs.toArray (0, 0) d (by have := ha.slot p _ hp; simp [this]) (hw.at_ hk).1 hu hd (by simpa using hi), hR w hw⟩
/-- an array or a struct that was there before -/
theorem old_loadAgg {t te : TypeId} {x : Operand} {g : Nat} {cs : Array Value} {d : TypeDesc} (ho : o.op = .load t x) (hx : ev E x = some (.pointer (some ⟨g, 0, none⟩))) (hb : Blk w0 g te cs)
    (hu : P.underlying t = some d) (hd : (match d with | .struct _ | .array _ _ => true | _ => false) = true) (hi : (P.info? t).map (·.size) = some cs.size) : Gives P N o E (Mem w0 L) (.agg cs) := fun a w ha hw => by
  unfold execOp; rw [ho]
  simp only [ha.eval hx]
  have := run_loadVar_row (P := P) w g te t cs (0, 0) d (hb.below hw.bel hb.lt) hu hd hi
  simp only [Instr.loadAt, Instr.sureAddr, Sem.run_bind, Sem.run_pure, Result.andThen_ok, this]
/-- a call that changes nothing that was there, and hands back what is known -/
theorem TL.call1 {d : Nat} {f : FuncId} {fn : Func} {xs : List Operand} {ts : Array TypeId} {vs : List Value} {r : Value} (hg : o.guard = none) (hd : o.dst = some d) (hN : Nat.blt d N.n = true)
    (ho : o.op = .call { callee := .value (.func f), args := xs.toArray, argTypes := ts }) (hx : evs E xs = some vs) (hf : P.funcs[f]? = some fn) (hn : (fn.name == "runtime.NumGoroutine") = false) (hb : fn.body.isNone = false)
    (hc : ∀ w, Mem w0 L w → Calls P f vs.toArray w fun e w' => e = .returned r ∧ Below w.heap.size w w') (h : TL P N ops Q l ((d, r) :: E) (Mem w0 L)) : TL P N ops Q (o :: l) E (Mem w0 L) :=
  TL.call (α := Unit) (r := fun _ => r) (I' := fun _ => Mem w0 L) hg hd hN ho hx hf hn hb (fun w hw => (hc w hw).mono fun e w' ⟨he, hb⟩ => ⟨(), he, hw.below hb⟩) (fun _ => h)
theorem TC.loop {c : Code} {α : Type} {I : World → Prop} (E' : α → Env) (I' : α → World → Prop) (m : α → Nat) (x0 : α) (h0 : ∀ a w, EnvOk N E a → I w → EnvOk N (E' x0) a ∧ I' x0 w)
    (step : ∀ x, TC P N (Exit.then (fun a w => ∃ y, m y < m x ∧ EnvOk N (E' y) a ∧ I' y w) Q) c (E' x) (I' x)) : TC P N Q (.loop c) E I := fun a w ha hw =>
  wp_loop_ghost (fun n a w => ∃ x, m x = n ∧ EnvOk N (E' x) a ∧ I' x w) (m x0) ⟨x0, rfl, (h0 a w ha hw).1, (h0 a w ha hw).2⟩ fun n a w ⟨x, hx, h1, h2⟩ =>
    Code.wp_mono (fun e a' w' q => by
      cases e with
      | normal => obtain ⟨y, hy, hE, hI⟩ := q; exact ⟨m y, by omega, y, rfl, hE, hI⟩
      | _ => exact q) (step x a w h1 h2)
end
end Go.Proofs.Ytmbcclgnjobikaa
