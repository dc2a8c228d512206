/-
  A walk by rules: memory that another function changes (a source of choices): one block of which a property is known. No program is imported.
-/
import Derived.Test.YtmbcclgnjobikaaSymRow
import Derived.Test.YtmbcclgnjobikaaSymRange
namespace Go.Proofs.Ytmbcclgnjobikaa
open Go.RowKit
set_option linter.unusedVariables false
set_option linter.unusedSimpArgs false
/-- everything of w behind block cb, as it is -/
def oths (cb : Nat) (w : World) : List Pc := (List.range (w.heap.size - (cb + 1))).map fun i => .oth (cb + 1 + i) ((w.heap[cb + 1 + i]?).getD (.deferred none))
theorem oths_mem {cb k : Nat} {w : World} (h1 : cb < k) (h2 : k < w.heap.size) : ∃ o, w.heap[k]? = some o ∧ Pc.oth k o ∈ oths cb w := by
  refine ⟨w.heap[k], by simp [h2], List.mem_map.2 ⟨k - (cb + 1), List.mem_range.2 (by omega), ?_⟩⟩
  rw [show cb + 1 + (k - (cb + 1)) = k by omega]
  simp [h2]
theorem oths_ok {cb : Nat} {w : World} {q : Pc} (h : q ∈ oths cb w) : ∃ k o, q = .oth k o ∧ cb < k ∧ w.heap[k]? = some o := by
  obtain ⟨i, hi, rfl⟩ := List.mem_map.1 h
  have hi := List.mem_range.1 hi
  have hlt : cb + 1 + i < w.heap.size := by omega
  exact ⟨_, _, rfl, by omega, by simp [hlt]⟩
theorem oths_apart (cb : Nat) (w : World) : (oths cb w).Pairwise fun p q => ∀ g, p.key = some g → q.key ≠ some g := by
  refine List.pairwise_map.2 (List.Pairwise.imp (fun hne g hg he => ?_) List.nodup_range)
  simp only [Pc.key, Option.some.injEq] at hg he
  omega
/-- a property of block cb that hangs on what lies below it alone -/
def Stab (cb : Nat) (p : World → Prop) : Prop := ∀ w1 w2 : World, p w1 → (∀ k, k < cb ∨ k = cb → w2.heap[k]? = w1.heap[k]?) → p w2
def CellsAt (w : World) (g : Nat) : Prop := ∃ o : Obj, w.heap[g]? = some o ∧ o.isCells = true
theorem Pm.codes {w : World} {cb : Nat} {p : World → Prop} (hp : p w) (hc : CellsAt w cb) (hst : Stab cb p) : Pm ⟨w, cb⟩ (.abs cb p :: oths cb w) w := by
  have hlt : cb < w.heap.size := by obtain ⟨o, ho, _⟩ := hc; exact (Array.getElem?_eq_some_iff.1 ho).1
  refine ⟨Below.refl _ _, fun q hq => ?_, List.Pairwise.cons (fun q hq g hg he => ?_) (oths_apart cb w), KeepsOthers.refl w, Nat.le_of_lt hlt⟩
  · rcases List.mem_cons.1 hq with rfl | hq
    · exact ⟨hp, Nat.le_refl _, hc, hst⟩
    · obtain ⟨k, o, rfl, h1, h2⟩ := oths_ok hq
      exact ⟨h2, Nat.le_of_lt h1⟩
  · obtain ⟨k, o, rfl, h1, h2⟩ := oths_ok hq
    simp only [Pc.key, Option.some.injEq] at hg he
    omega
theorem Pm.kept {w w1 : World} {cb : Nat} {L : List Pc} (h : Pm ⟨w, cb⟩ L w1) (hs : ∀ q ∈ oths cb w, q ∈ L) : w.grownBy w1 (some cb) := by
  refine ⟨h.bel.os, h.bel.tape, h.bel.output, h.bel.size, fun k hk hne => ?_⟩
  rcases Nat.lt_trichotomy k cb with h1 | h1 | h1
  · exact h.bel.block k h1
  · exact absurd (by rw [h1]) hne
  · obtain ⟨o, ho, hm⟩ := oths_mem h1 hk
    exact ((h.own _ (hs _ hm)).1).trans ho.symm
theorem own_up {w : World} {b b' : Nat} {e : TypeId} {size n : Nat} {v : Value} {xs : List Value} (h : w.ownsRow b e size v n xs) (hk : ∀ g, v.ownBlock = some g → b' ≤ g) : w.ownsRow b' e size v n xs := by
  refine ⟨h.1, ?_⟩
  rcases h.2 with h | ⟨g, cap, cur, a, b, r⟩
  · exact .inl h
  · exact .inr ⟨g, cap, cur, a, hk g (by rw [a]; rfl), r⟩
theorem Pc.up {w : World} {b b' : Nat} {q : Pc} (h : q.ok b w) (hk : ∀ g, q.key = some g → b' ≤ g) (hna : q.isAbs = false) : q.ok b' w := by
  cases q with
  | blk g t cs => exact ⟨h.1, hk g rfl⟩
  | row v e size n xs => exact own_up h hk
  | oth k o => exact ⟨h.1, hk k rfl⟩
  | abs g p => cases hna
/-- what a function that uses choices leaves -/
structure Codr (p : World → Prop) (cb : Nat) (w : World) (Ln : List Pc) (w' : World) : Prop where
  cod : p w'
  grown : w.grownBy w' (some cb)
  cells : CellsAt w' cb
  own : ∀ q ∈ Ln, q.ok w.heap.size w'
  apart : Ln.Pairwise fun p q => ∀ g, p.key = some g → q.key ≠ some g
theorem Pm.codr {w w1 : World} {cb : Nat} {p : World → Prop} (Ln : List Pc) (h : Pm ⟨w, cb⟩ (Ln ++ .abs cb p :: oths cb w) w1) (hna : noAbs Ln = true) : Codr p cb w Ln w1 := by
  have ha := List.pairwise_append.1 h.apart
  have habs := h.own (.abs cb p) (List.mem_append_right _ List.mem_cons_self)
  refine ⟨habs.1, h.kept fun q hq => List.mem_append_right _ (List.mem_cons_of_mem _ hq), habs.2.2.1, fun q hq => ?_, ha.1⟩
  refine Pc.up (h.own q (List.mem_append_left _ hq)) (fun g hg => ?_) (noAbs_at hna q hq)
  rcases Nat.lt_or_ge g w.heap.size with h1 | h1
  · exfalso
    have hge : cb ≤ g := (Pc.lt (h.own q (List.mem_append_left _ hq)) g hg).1
    rcases Nat.eq_or_lt_of_le hge with h2 | h2
    · subst h2
      exact ha.2.2 q hq _ List.mem_cons_self cb hg rfl
    · obtain ⟨o, ho, hm⟩ := oths_mem h2 h1
      exact ha.2.2 q hq _ (List.mem_cons_of_mem _ hm) g hg rfl
  · exact h1
section
variable {P : Program} {N : Fr} {Q : Exit → Act → World → Prop} {E : Env} {w0 : Base} {L : List Pc} {ops : Array Oper} {l : List Oper} {o : Oper}
theorem Pm.cods {w w' : World} {k cb : Nat} {p : World → Prop} {Ln : List Pc} (h : Pm w0 L w) (hk : L[k]? = some (.abs cb p)) (hc : Codr p cb w Ln w') (hna : noAbs Ln = true) : Pm w0 (Ln ++ L) w' := by
  have hp := h.at_ hk
  have hcb := (Pc.lt hp cb rfl)
  have hkeys : ∀ q ∈ L, ∀ g, q.key = some g → g < w.heap.size := fun q hq g hg => (Pc.lt (h.own q hq) g hg).2
  have hold : ∀ q ∈ L, q.ok w0.b w' := fun q hq => by
    by_cases he : q.key = some cb
    · -- the piece itself
      obtain ⟨i, hi⟩ := List.getElem?_of_mem hq
      have hik : i = k := by
        rcases Nat.lt_trichotomy i k with h1 | h1 | h1
        · exact absurd rfl (List.pairwise_iff_getElem.1 h.apart i k (List.getElem?_eq_some_iff.1 hi).1 (List.getElem?_eq_some_iff.1 hk).1 h1 cb (by rw [(List.getElem?_eq_some_iff.1 hi).2]; exact he) |> fun hh => by rw [(List.getElem?_eq_some_iff.1 hk).2] at hh; exact hh)
        · exact h1
        · exact absurd he (List.pairwise_iff_getElem.1 h.apart k i (List.getElem?_eq_some_iff.1 hk).1 (List.getElem?_eq_some_iff.1 hi).1 h1 cb (by rw [(List.getElem?_eq_some_iff.1 hk).2]; rfl) |> fun hh => by rw [(List.getElem?_eq_some_iff.1 hi).2] at hh; exact hh)
      subst hik
      rw [hk] at hi
      cases hi
      exact ⟨hc.cod, hp.2.1, hc.cells, hp.2.2.2⟩
    · refine Pc.same (h.own q hq) (fun g hg => hc.grown.block g (hkeys q hq g hg) fun e => he (by rw [hg, e])) (fun j hj => hc.grown.block j (Nat.lt_of_lt_of_le hj h.base) fun e => ?_)
      cases e
      have := hcb.1
      omega
  refine ⟨h.bel.grown hc.grown h.base (fun j e => by cases e; exact hcb.1), fun q hq => ?_, List.pairwise_append.2 ⟨hc.apart, h.apart, fun q hq r hr g hg hgr => ?_⟩, h.oth.trans (KeepsOthers.of_grownBy hc.grown fun j o hj ho => ?_), h.low⟩
  · rcases List.mem_append.1 hq with hq | hq
    · exact Pc.mono (hc.own q hq) h.base (noAbs_at hna q hq)
    · exact hold q hq
  · have h1 := (Pc.lt (hc.own q hq) g hg).1
    have h2 := hkeys r hr g hgr
    omega
  · cases hj
    obtain ⟨o', h1, h2⟩ := hp.2.2.1
    rw [ho] at h1
    cases h1
    exact h2
/-- a call that uses choices -/
theorem TL.pcallCod {α : Type} {k cb d : Nat} {p : World → Prop} {f : FuncId} {fn : Func} {xs : List Operand} {ts : Array TypeId} {vs : List Value} (r : α → Value) (Ln : α → List Pc) (hg : o.guard = none) (hd : o.dst = some d) (hN : Nat.blt d N.n = true)
    (ho : o.op = .call { callee := .value (.func f), args := xs.toArray, argTypes := ts }) (hx : evs E xs = some vs) (hf : P.funcs[f]? = some fn) (hn : (fn.name == "runtime.NumGoroutine") = false) (hb : fn.body.isNone = false)
    (hk : L[k]? = some (.abs cb p)) (hc : ∀ w, Pm w0 L w → p w → Calls P f vs.toArray w fun en w' => ∃ x, en = .returned (r x) ∧ Codr p cb w (Ln x) w')
    (h : ∀ x, TL P N ops Q l ((d, r x) :: E) (Pm w0 (Ln x ++ L))) (hna : ∀ x, noAbs (Ln x) = true := by intro x; rfl) : TL P N ops Q (o :: l) E (Pm w0 L) :=
  TL.call (α := α) (r := r) (I' := fun x => Pm w0 (Ln x ++ L)) hg hd hN ho hx hf hn hb (fun w hw => (hc w hw (hw.at_ hk).1).mono fun en w' ⟨x, he, h2⟩ => ⟨x, he, hw.cods hk h2 (hna x)⟩) h
/-- a call that makes choices: from here on it is seen from this world -/
theorem TL.callNew {d : Nat} {I : World → Prop} {p : Nat → World → Prop} {f : FuncId} {fn : Func} {xs : List Operand} {ts : Array TypeId} {vs : List Value} (hg : o.guard = none) (hd : o.dst = some d) (hN : Nat.blt d N.n = true)
    (ho : o.op = .call { callee := .value (.func f), args := xs.toArray, argTypes := ts }) (hx : evs E xs = some vs) (hf : P.funcs[f]? = some fn) (hn : (fn.name == "runtime.NumGoroutine") = false) (hb : fn.body.isNone = false)
    (hc : ∀ w, I w → Calls P f vs.toArray w fun en w' => en = .returned (.pointer (some ⟨w.heap.size, 0, none⟩)) ∧ p w.heap.size w' ∧ CellsAt w' w.heap.size ∧ Below w.heap.size w w') (hst : ∀ cb, Stab cb (p cb))
    (h : ∀ w1, I w1 → TL P N ops Q l ((d, .pointer (some ⟨w1.heap.size, 0, none⟩)) :: E) (Pm w1 [.abs w1.heap.size (p w1.heap.size)])) : TL P N ops Q (o :: l) E I := fun a w ha hw =>
  wpList_plain hg fun K hK => by
    unfold Oper.wp
    rw [enters ha ho hx hf hn hb, Oper.upon_enter]
    refine (hc w hw).mono ?_
    rintro e w' ⟨rfl, hp, hcl, hbel⟩
    show K (a.put o.dst _) w'
    rw [hd]
    refine hK _ _ (h w hw _ _ (ha.put d _ (by simpa [Nat.blt_eq] using hN)) ⟨hbel, fun q hq => ?_, List.pairwise_singleton _ _, others_below hbel, Nat.le_refl _⟩)
    rcases List.mem_singleton.1 hq with rfl
    exact ⟨hp, Nat.le_refl _, hcl, hst _⟩
theorem gives_sliceL {t : TypeId} {x lo : Operand} {vx vl v : Value} {I : World → Prop} (ho : o.op = .slice t x (some lo) none none) (hx : ev E x = some vx) (hl : ev E lo = some vl) (hv : ∀ w : World, (Instr.sliceAt t vx (some vl) none none).run P w = .ok v w) : Gives P N o E I v := fun a w ha _ => by
  unfold execOp; rw [ho]
  simp only [Option.map_some, Option.map_none, ha.eval hx, ha.eval hl, Sem.run_bind, hv, Result.andThen_ok, Sem.run_pure]
theorem cut_lo {t : TypeId} {size : Nat} (ht : P.underlying t = some (.slice (P.elem t))) (hs : ∀ w : World, (sizeOf (P.elem t)).run P w = .ok size w) (A : Option Addr) (n c lo : Nat) {k : IntKind} {a : Int} (ha : a = (lo : Int)) (h : lo ≤ n) (w : World) :
    (Instr.sliceAt t (.slice A n c) (some (.int k a)) none none).run P w = .ok (.slice (if c = lo then A else A.map (·.add (lo * size))) (n - lo) (c - lo)) w := by
  subst ha
  rw [run_sliceAt_slice w t _ _ _ _ ht, run_slice_l w t A n c ht k lo (by omega) (by omega)]
  simp only [hs, Result.andThen, sliced, Int.toNat_natCast]
theorem cut_lo1 {t : TypeId} (ht : P.underlying t = some (.slice (P.elem t))) (hs : ∀ w : World, (sizeOf (P.elem t)).run P w = .ok 1 w) (A : Option Addr) (n c lo : Nat) {k : IntKind} {a : Int} (ha : a = (lo : Int)) (h : lo ≤ n) (w : World) :
    (Instr.sliceAt t (.slice A n c) (some (.int k a)) none none).run P w = .ok (.slice (if c = lo then A else A.map (·.add lo)) (n - lo) (c - lo)) w := by
  have := cut_lo (size := 1) (k := k) ht hs A n c lo ha h w
  rwa [Nat.mul_one] at this
end
/-- bytes that do not lie in the block of the choices -/
theorem byt_grown {w w1 : World} {cb n : Nat} {A : Option Addr} {l : List Int} (h : Byt w w.heap.size A n l) (hne : ∀ ad, A = some ad → ad.block ≠ cb) (hg : w.grownBy w1 (some cb)) : Byt w1 w1.heap.size A n l := by
  refine ⟨⟨h.1.1, fun hn => ?_⟩, h.2⟩
  obtain ⟨ad, hA, hb, hc⟩ := h.1.2 hn
  refine ⟨ad, hA, Nat.lt_of_lt_of_le hb hg.size, fun j u hu => ?_⟩
  rw [← hc j u hu]
  refine World.cell?_of_block ?_
  have hbl : (ad.add j).block = ad.block := by unfold Addr.add; split <;> rfl
  rw [hbl]
  exact hg.block _ hb fun e => hne ad hA (by injection e)
end Go.Proofs.Ytmbcclgnjobikaa
