/-
  A walk by rules: maps from numbers to numbers that the call has made: one object of which it is known what it maps. No program is imported.
-/
import Derived.Test.YtmbcclgnjobikaaSymEl
import Derived.Maps.Own
import Derived.Maps.OwnSet
import Derived.Maps.Views
namespace Go.Proofs.Ytmbcclgnjobikaa
open Go.RowKit
open Go.WideElems (Fit rg)
set_option linter.unusedVariables false
set_option linter.unusedSimpArgs false
/-- a type of maps from numbers to numbers -/
structure IMap (P : Program) (t k e : TypeId) (qk qe : IntKind) : Prop where
  ht : P.underlying t = some (.map k e)
  hk : P.underlying k = some (.int qk)
  he : P.underlying e = some (.int qe)
  hz : ∀ w : World, (zeroValue e).run P w = .ok (.int qe 0) w
/-- object o is a map of n entries that maps as f does -/
def MapII (P : Program) (k e : TypeId) (qk qe : IntKind) (o : Obj) (n : Nat) (f : Int → Option Int) : Prop :=
  ∃ (es : Array MapEntry) (clock : Nat) (D : DataW Unit), o = .map es clock ∧ Fit (H := Unit) P k (plainElem P e) es clock ∧ es.size = n ∧ D = .map ((es.toList.map (rg P k (plainElem P e))).foldr DataW.insert []) ∧
    ∀ a, (Lit.int qk a).wf = true → Maps.has D (.int qk a) = (f a).isSome ∧ D.atKey (.int qk a) (.lit (.int qe 0)) = .lit (.int qe ((f a).getD 0))
section
variable {P : Program} {t k e : TypeId} {qk qe : IntKind} {o : Obj} {n g : Nat} {f : Int → Option Int} {w : World}
theorem MapII.owns (h : MapII P k e qk qe o n f) (hb : w.heap[g]? = some o) : ∃ D : DataW Unit, (w.ownsMap P k (plainElem P e) g n D ∧ Maps.size D = n) ∧ ∀ a, (Lit.int qk a).wf = true → Maps.has D (.int qk a) = (f a).isSome ∧ D.atKey (.int qk a) (.lit (.int qe 0)) = .lit (.int qe ((f a).getD 0)) := by
  obtain ⟨es, clock, D, rfl, F, hs, hD, hf⟩ := h
  exact ⟨D, ⟨⟨es, clock, hb, F, Nat.le_of_eq hs, hD⟩, by rw [hD, ← hs]; rw [Maps.size, length_read]⟩, hf⟩
theorem MapII.of_owns {D : DataW Unit} {m : Nat} (h : w.ownsMap P k (plainElem P e) g n D) (hm : Maps.size D = m) (hf : ∀ a, (Lit.int qk a).wf = true → Maps.has D (.int qk a) = (f a).isSome ∧ D.atKey (.int qk a) (.lit (.int qe 0)) = .lit (.int qe ((f a).getD 0))) : ∃ o, w.heap[g]? = some o ∧ MapII P k e qk qe o m f := by
  obtain ⟨es, clock, hb, F, hs, hD⟩ := h
  exact ⟨_, hb, es, clock, D, rfl, F, by rw [← hm, hD]; rw [Maps.size, length_read], hD, hf⟩
theorem mapII_new (P : Program) (k e : TypeId) (qk qe : IntKind) : MapII P k e qk qe (.map #[] 0) 0 (fun _ => none) := by
  let w : World := default
  obtain ⟨o, ho, hm⟩ := MapII.of_owns (qk := qk) (qe := qe) (f := fun _ => none) (World.ownsMap_made (H := Unit) w P k (plainElem P e)) rfl (fun a _ => ⟨rfl, rfl⟩)
  have : o = .map #[] 0 := by
    have h2 := heap_alloc_new w (.map #[] 0)
    rw [ho] at h2
    exact Option.some.inj h2
  rw [← this]
  exact hm
theorem MapII.look (h : MapII P k e qk qe o n f) (T : IMap P t k e qk qe) (hb : w.heap[g]? = some o) {a : Int} (ha : (Lit.int qk a).wf = true) : (Instr.lookup t (.map (some g)) (.int qk a) false).run P w = .ok (.int qe ((f a).getD 0)) w := by
  obtain ⟨D, ⟨hD, hsz⟩, hf⟩ := h.owns hb
  obtain ⟨c, hrun, hat, _⟩ := hD.lookup_int (Maps.int_keyed T.hk) T.ht T.he (T.hz w) (Maps.keyOf_int_mk T.hk ha)
  rw [(hf a ha).2] at hat
  have : (f a).getD 0 = c := by injection hat with hat; injection hat
  rw [this]
  exact hrun
theorem MapII.lookOk (h : MapII P k e qk qe o n f) (T : IMap P t k e qk qe) (hb : w.heap[g]? = some o) {a : Int} (ha : (Lit.int qk a).wf = true) : (Instr.lookup t (.map (some g)) (.int qk a) true).run P w = .ok (.tuple #[.int qe ((f a).getD 0), .bool (f a).isSome]) w := by
  obtain ⟨D, ⟨hD, hsz⟩, hf⟩ := h.owns hb
  have hw0 : (Lit.int qe 0).wf = true := by cases qe <;> decide
  obtain ⟨v, ps, hrun, hv⟩ := hD.look_ok (Maps.int_keyed T.hk) T.ht (T.hz w) (plainElem_int T.he hw0) (Maps.keyOf_int_mk T.hk ha)
  obtain ⟨c, rfl, hc, _⟩ := plainElem_int_inv T.he hv
  simp only [Prod.mk.injEq] at hc
  have hc1 := hc.1
  rw [(hf a ha).2] at hc1
  have : (f a).getD 0 = c := by injection hc1 with hc1; injection hc1
  rw [this, ← (hf a ha).1]
  exact hrun
theorem MapII.put (h : MapII P k e qk qe o n f) (T : IMap P t k e qk qe) (hn : n < maxLen) (hb : w.heap[g]? = some o) {a b : Int} (ha : (Lit.int qk a).wf = true) (hbw : (Lit.int qe b).wf = true) :
    ∃ o' w', (Instr.mapUpdate t (.map (some g)) (.int qk a) (.int qe b)).run P w = .ok () w' ∧ w'.heap[g]? = some o' ∧ MapII P k e qk qe o' (if (f a).isSome then n else n + 1) (fun z => if z = a then some b else f z) ∧ w.grownBy w' (some g) := by
  obtain ⟨D, ⟨hD, hsz⟩, hf⟩ := h.owns hb
  have hk := Maps.keyOf_int_mk T.hk ha
  obtain ⟨w', hrun, hD', hg⟩ := hD.update (Maps.int_keyed T.hk) T.ht hn hk (plainElem_int T.he hbw)
  obtain ⟨o', ho', hm'⟩ := MapII.of_owns (qk := qk) (qe := qe) (f := fun z => if z = a then some b else f z) hD' (by rw [Maps.size_put (hD.tidy (Maps.int_keyed T.hk)), hsz, (hf a ha).1]) (fun z hz => by
    by_cases e1 : z = a
    · subst e1
      rw [if_pos rfl]
      exact ⟨Maps.has_put_same hD.isMap ((Maps.int_keyed T.hk).key hk) _, Maps.atKey_put_same hD.isMap ((Maps.int_keyed T.hk).key hk) _ _⟩
    · have hne : (Lit.int qk z) ≠ .int qk a := fun hh => e1 (by injection hh)
      rw [if_neg e1, Maps.has_put_other hne, Maps.atKey_put_other hne]
      exact hf z hz)
  exact ⟨o', w', hrun, ho', hm', hg⟩
end
section
variable {P : Program} {N : Fr} {Q : Exit → Act → World → Prop} {E : Env} {w0 : Base} {L : List Pc} {ops : Array Oper} {l : List Oper} {o : Oper} {w w' : World}
/-- an object that the walk may change: one that is new, or that the walk is seen to own -/
def Mine (w0 : Base) (g : Nat) : Prop := ∀ o, w0.w.heap[g]? = some o → o.isCells = true
theorem mine_new {w0 : Base} {g : Nat} (h : w0.w.heap.size ≤ g) : Mine w0 g := fun o ho => by
  have := (Array.getElem?_eq_some_iff.1 ho).1
  omega
/-- an object of one's own turns into another one -/
theorem Pm.turnO (h : Pm w0 L w) {k g : Nat} {ob ob' : Obj} (hk : L[k]? = some (.oth g ob)) (hnew : Mine w0 g) (hg : w.grownBy w' (some g)) (hb : w'.heap[g]? = some ob') : Pm w0 (L.set k (.oth g ob')) w' := by
  have hpo := h.at_ hk
  refine ⟨h.bel.grown hg h.base fun j e => by cases e; exact hpo.2, fun q hq => ?_, ?_, ⟨Nat.le_trans h.oth.size hg.size, fun j x hj hx => ?_⟩, h.low⟩
  · obtain ⟨i, hi⟩ := List.getElem?_of_mem hq
    rw [List.getElem?_set] at hi
    by_cases e : k = i
    · subst e
      have hlt := (List.getElem?_eq_some_iff.1 hk).1
      simp [hlt] at hi
      subst hi
      exact ⟨hb, hpo.2⟩
    · rw [if_neg e] at hi
      refine Pc.same (h.at_ hi) (fun j hj => hg.block j (Pc.lt (h.at_ hi) j hj).2 fun he => ?_) (fun j hj => hg.block j (Nat.lt_of_lt_of_le hj h.base) fun he => ?_)
      · cases he
        exact h.neq hk hi e g rfl hj
      · cases he
        have := hpo.2
        omega
  · refine List.pairwise_iff_getElem.2 fun i j hi hj hij x hxi hxj => ?_
    have key : ∀ (m : Nat) (hm : m < (L.set k (.oth g ob')).length), ((L.set k (.oth g ob'))[m]).key = (L[m]'(by simpa using hm)).key := fun m hm => by
      rw [List.getElem_set]
      split
      · rename_i e
        subst e
        rw [(List.getElem?_eq_some_iff.1 hk).2]
        rfl
      · rfl
    rw [key] at hxi hxj
    exact List.pairwise_iff_getElem.1 h.apart i j (by simpa using hi) (by simpa using hj) hij x hxi hxj
  · have h1 := h.oth.same j x hj hx
    exact (hg.block j (Array.getElem?_eq_some_iff.1 h1).1 fun he => by cases he; rw [hnew x hj] at hx; cases hx).trans h1
theorem TL.mkmap {d : Nat} {t : TypeId} (hg : o.guard = none) (hd : o.dst = some d) (hN : Nat.blt d N.n = true) (ho : o.op = .makeMap t none)
    (h : ∀ g, Mine w0 g → TL P N ops Q l ((d, .map (some g)) :: E) (Pm w0 (.oth g (.map #[] 0) :: L))) : TL P N ops Q (o :: l) E (Pm w0 L) :=
  TL.run (α := {g : Nat // w0.w.heap.size ≤ g}) (r := fun g => .map (some g.1)) (I' := fun g => Pm w0 (.oth g.1 (.map #[] 0) :: L)) hg hd hN (fun a w ha hw => by
    refine ⟨⟨w.heap.size, hw.oth.size⟩, w.alloc (.map #[] 0), ?_, hw.add ((Below.refl _ _).alloc (Nat.le_refl _) _) ⟨heap_alloc_new w _, Nat.le_refl _⟩⟩
    unfold execOp; rw [ho]
    rfl) (fun g => h g.1 (mine_new g.2))
theorem gives_look {x y : Operand} {t k e : TypeId} {qk qe : IntKind} {g i n : Nat} {ob : Obj} {f : Int → Option Int} {a : Int} (ho : o.op = .lookup t x y false) (hx : ev E x = some (.map (some g))) (hy : ev E y = some (.int qk a)) (T : IMap P t k e qk qe) (hk : L[i]? = some (.oth g ob)) (hm : MapII P k e qk qe ob n f) (ha : (Lit.int qk a).wf = true) :
    Gives P N o E (Pm w0 L) (.int qe ((f a).getD 0)) := fun ac w hac hw => by
  unfold execOp; rw [ho]
  simp only [hac.eval hx, hac.eval hy, hm.look T (hw.at_ hk).1 ha, Sem.run_bind, Result.andThen_ok, Sem.run_pure]
theorem gives_lookOk {x y : Operand} {t k e : TypeId} {qk qe : IntKind} {g i n : Nat} {ob : Obj} {f : Int → Option Int} {a : Int} (ho : o.op = .lookup t x y true) (hx : ev E x = some (.map (some g))) (hy : ev E y = some (.int qk a)) (T : IMap P t k e qk qe) (hk : L[i]? = some (.oth g ob)) (hm : MapII P k e qk qe ob n f) (ha : (Lit.int qk a).wf = true) :
    Gives P N o E (Pm w0 L) (.tuple #[.int qe ((f a).getD 0), .bool (f a).isSome]) := fun ac w hac hw => by
  unfold execOp; rw [ho]
  simp only [hac.eval hx, hac.eval hy, hm.lookOk T (hw.at_ hk).1 ha, Sem.run_bind, Result.andThen_ok, Sem.run_pure]
theorem gives_lookNone {x y : Operand} {t k e : TypeId} {qk qe : IntKind} {g i n : Nat} {ob : Obj} {f : Int → Option Int} {a : Int} (ho : o.op = .lookup t x y true) (hx : ev E x = some (.map (some g))) (hy : ev E y = some (.int qk a)) (T : IMap P t k e qk qe) (hk : L[i]? = some (.oth g ob)) (hm : MapII P k e qk qe ob n f) (ha : (Lit.int qk a).wf = true) (hf : f a = none) :
    Gives P N o E (Pm w0 L) (.tuple #[.int qe 0, .bool false]) := by
  have := gives_lookOk (N := N) (w0 := w0) ho hx hy T hk hm ha
  rw [hf] at this
  exact this
theorem gives_lookSome {x y : Operand} {t k e : TypeId} {qk qe : IntKind} {g i n : Nat} {ob : Obj} {f : Int → Option Int} {a b : Int} (ho : o.op = .lookup t x y true) (hx : ev E x = some (.map (some g))) (hy : ev E y = some (.int qk a)) (T : IMap P t k e qk qe) (hk : L[i]? = some (.oth g ob)) (hm : MapII P k e qk qe ob n f) (ha : (Lit.int qk a).wf = true) (hf : f a = some b) :
    Gives P N o E (Pm w0 L) (.tuple #[.int qe b, .bool true]) := by
  have := gives_lookOk (N := N) (w0 := w0) ho hx hy T hk hm ha
  rw [hf] at this
  exact this
theorem TL.mapset {x y z : Operand} {t k e : TypeId} {qk qe : IntKind} {g i n : Nat} {ob : Obj} {f : Int → Option Int} {a b : Int} (hg : o.guard = none) (hd : o.dst = none) (ho : o.op = .mapUpdate t x y z) (hx : ev E x = some (.map (some g))) (hy : ev E y = some (.int qk a)) (hz : ev E z = some (.int qe b))
    (T : IMap P t k e qk qe) (hk : L[i]? = some (.oth g ob)) (hnew : Mine w0 g) (hm : MapII P k e qk qe ob n f) (hn : n < maxLen) (ha : (Lit.int qk a).wf = true) (hb : (Lit.int qe b).wf = true)
    (h : ∀ ob', MapII P k e qk qe ob' (if (f a).isSome then n else n + 1) (fun v => if v = a then some b else f v) → TL P N ops Q l E (Pm w0 (L.set i (.oth g ob')))) : TL P N ops Q (o :: l) E (Pm w0 L) := fun ac w hac hw =>
  wpList_plain hg fun K hK => by
    obtain ⟨ob', w', hrun, hob, hm', hgr⟩ := hm.put T hn (hw.at_ hk).1 ha hb
    have hex : (execOp ac.eval o).run P w = .ok .skip w' := by
      unfold execOp; rw [ho]
      simp only [hac.eval hx, hac.eval hy, hac.eval hz, Sem.run_bind, hrun, Result.andThen_ok, Sem.run_pure]
    unfold Oper.wp
    rw [hex]
    show K (ac.put o.dst undef) _
    rw [hd]
    exact hK _ _ (h ob' hm' _ _ (hac.put0 _) (hw.turnO hk hnew hgr hob))
/-- the world as if block g held cells: the base of a walk that may change the object there -/
def wbut (w : World) (g : Nat) : World := { w with heap := w.heap.setIfInBounds g (.cells #[] 0) }
theorem but_other {w : World} {g k : Nat} (h : k ≠ g) : (wbut w g).heap[k]? = w.heap[k]? := by
  show (w.heap.setIfInBounds g _)[k]? = _
  rw [Array.getElem?_setIfInBounds_ne (fun e => h e.symm)]
theorem but_size (w : World) (g : Nat) : (wbut w g).heap.size = w.heap.size := by simp [wbut]
theorem Pm.mapStart {w : World} {g : Nat} {ob : Obj} (hb : w.heap[g]? = some ob) : Pm ⟨wbut w g, g⟩ (.oth g ob :: oths g w) w := by
  have hlt := (Array.getElem?_eq_some_iff.1 hb).1
  refine ⟨⟨rfl, rfl, rfl, Nat.le_of_eq (but_size w g), fun k hk => (but_other (Nat.ne_of_lt hk)).symm⟩, fun q hq => ?_, List.Pairwise.cons (fun q hq x hx he => ?_) (oths_apart g w), ⟨Nat.le_of_eq (but_size w g), fun k o hk ho => ?_⟩, by rw [but_size]; exact Nat.le_of_lt hlt⟩
  · rcases List.mem_cons.1 hq with rfl | hq
    · exact ⟨hb, Nat.le_refl _⟩
    · obtain ⟨k, o, rfl, h1, h2⟩ := oths_ok hq
      exact ⟨h2, Nat.le_of_lt h1⟩
  · obtain ⟨k, o, rfl, h1, h2⟩ := oths_ok hq
    simp only [Pc.key, Option.some.injEq] at hx he
    omega
  · by_cases e : k = g
    · subst e
      have : (wbut w k).heap[k]? = some (.cells #[] 0) := by show (w.heap.setIfInBounds k _)[k]? = _; simp [hlt]
      rw [this] at hk
      cases hk
      cases ho
    · rw [← but_other e]; exact hk
theorem mine_but {w : World} {g b : Nat} : Mine ⟨wbut w g, b⟩ g := fun o ho => by
  have hlt : g < w.heap.size := by have := (Array.getElem?_eq_some_iff.1 ho).1; rwa [but_size] at this
  have : (wbut w g).heap[g]? = some (.cells #[] 0) := by show (w.heap.setIfInBounds g _)[g]? = _; simp [hlt]
  rw [this] at ho
  cases ho
  rfl
/-- what a function leaves that may change the object in block g -/
theorem Pm.mapEnd {w w1 : World} {g : Nat} {L : List Pc} (h : Pm ⟨wbut w g, g⟩ L w1) (hs : ∀ q ∈ oths g w, q ∈ L) : w.grownBy w1 (some g) := by
  refine ⟨h.bel.os, h.bel.tape, h.bel.output, by have := h.bel.size; rwa [but_size] at this, fun k hk hne => ?_⟩
  rcases Nat.lt_trichotomy k g with h1 | h1 | h1
  · exact (h.bel.block k h1).trans (but_other (Nat.ne_of_lt h1))
  · exact absurd (by rw [h1]) hne
  · obtain ⟨o, ho, hm⟩ := oths_mem h1 hk
    exact ((h.own _ (hs _ hm)).1).trans ho.symm
/-- a call that may change the object of piece number k -/
theorem TL.pcallObj {α : Type} {d k g : Nat} {ob : Obj} {f : FuncId} {fn : Func} {xs : List Operand} {ts : Array TypeId} {vs : List Value} (r : α → Value) (M : α → Obj → Prop) (hg : o.guard = none) (hd : o.dst = some d) (hN : Nat.blt d N.n = true)
    (ho : o.op = .call { callee := .value (.func f), args := xs.toArray, argTypes := ts }) (hx : evs E xs = some vs) (hf : P.funcs[f]? = some fn) (hn : (fn.name == "runtime.NumGoroutine") = false) (hb : fn.body.isNone = false)
    (hk : L[k]? = some (.oth g ob)) (hnew : Mine w0 g) (hc : ∀ w, Pm w0 L w → w.heap[g]? = some ob → Calls P f vs.toArray w fun en w' => ∃ x ob', en = .returned (r x) ∧ M x ob' ∧ w'.heap[g]? = some ob' ∧ w.grownBy w' (some g))
    (h : ∀ x ob', M x ob' → TL P N ops Q l ((d, r x) :: E) (Pm w0 (L.set k (.oth g ob')))) : TL P N ops Q (o :: l) E (Pm w0 L) :=
  TL.call (α := {y : α × Obj // M y.1 y.2}) (r := fun y => r y.1.1) (I' := fun y => Pm w0 (L.set k (.oth g y.1.2))) hg hd hN ho hx hf hn hb (fun w hw => (hc w hw (hw.at_ hk).1).mono fun en w' ⟨x, ob', he, hM, hb', hgr⟩ => ⟨⟨(x, ob'), hM⟩, he, hw.turnO hk hnew hgr hb'⟩) (fun y => h y.1.1 y.1.2 y.2)
end
end Go.Proofs.Ytmbcclgnjobikaa
