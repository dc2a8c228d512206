/-
  Texts of the proof, joined: SymEl, SymMap, SymSrt, SymMax, Draw, Us1, Us2, Us3.
-/
import Derived.Test.YtleckflmckbheaaPu1
import Derived.Maps.Own
import Derived.Maps.OwnSet
import Derived.Maps.Views
import Derived.BigFrame
import Derived.Laws.Small
import Derived.Test.YtleckflmckbheaaRows
namespace Go.Proofs.Ytleckflmckbheaa
open Go.RowKit
set_option linter.unusedVariables false
set_option linter.unusedSimpArgs false
/-- where the cells of a slice that is not empty lie -/
theorem Reads.ad {w : World} {B size n : Nat} {A : Option Addr} {xs : List Value} (h : Reads w B size A n xs) (hn : 0 < n) (hs : 0 < size) : ∃ b o, A = some ⟨b, o, none⟩ ∧ b < B ∧ ∀ (j : Nat) (u : Value), xs[j]? = some u → w.cell? ⟨b, o + j, none⟩ = some u := by
  obtain ⟨⟨b, o, sp⟩, hA, hb, hc⟩ := h.2 hn
  have hl : 0 < xs.length := by rw [h.1]; exact Nat.mul_pos hn hs
  have hsp : sp = none := by
    have := hc 0 xs[0] (List.getElem?_eq_getElem hl)
    simpa [Addr.add] using World.cell?_spot this
  subst hsp
  refine ⟨b, o, hA, hb, fun j u hu => ?_⟩
  have e : (⟨b, o, none⟩ : Addr).add j = ⟨b, o + j, none⟩ := by unfold Addr.add; split <;> simp_all
  rw [← e]
  exact hc j u hu
section
variable {P : Program} {N : Fr} {Q : Exit → Act → World → Prop} {E : Env} {w0 : Base} {L : List Pc} {ops : Array Oper} {l : List Oper} {o : Oper} {I : World → Prop}
theorem at_el {t e : TypeId} {size : Nat} (ht : P.underlying t = some (.slice e)) (hs : ∀ w : World, (sizeOf e).run P w = .ok size w) {A : Option Addr} {b off : Nat} (hA : A = some ⟨b, off, none⟩) (n c i : Nat) (hi : i < n) {z : Int} (hz : z = (i : Int)) (w : World) :
    (Instr.indexAt t (.slice A n c) (.int .i64 z)).run P w = .ok (.pointer (some ⟨b, off + i * size, none⟩)) w := by
  subst hA hz
  have h1 : (0 : Int) ≤ (i : Int) ∧ (i : Int) < n := by omega
  have hadd : (⟨b, off, none⟩ : Addr).add (i * size) = ⟨b, off + i * size, none⟩ := by unfold Addr.add; split <;> simp_all
  simp [Instr.indexAt, run_underlying ht, asIntOf, hs, h1, hadd, go_sem]
  try (intro hh; exact absurd hh (by omega))
theorem append_types {t u e e' : TypeId} (ht : P.underlying t = some (.slice e)) (hu : P.underlying u = some (.slice e')) (ty : TypeId) (vs : Array Value) (w : World) : (Builtin.append_ #[t, u] ty vs).run P w = (Builtin.append_ #[t, t] ty vs).run P w := by
  unfold Builtin.append_
  cases h0 : vs[0]? with
  | none => simp [h0]
  | some s =>
    cases h1 : vs[1]? with
    | none => simp [h0, h1]
    | some x =>
      cases s <;> simp [h0, h1, Sem.run_bind, run_underlying ht, run_underlying hu]
/-- append to row number k; what comes of it, by a name -/
theorem TL.appendT {d k : Nat} {s x : Operand} {t u e e' : TypeId} {size bytes n c m cc : Nat} {A0 A : Option Addr} {olds news : List Value} (hg : o.guard = none) (hd : o.dst = some d) (hN : Nat.blt d N.n = true)
    (ho : o.op = .call { callee := .builtin .append, args := #[s, x], argTypes := #[t, u] }) (hu : P.underlying u = some (.slice e')) (hE : Elem P t e size bytes) (hs : ev E s = some (.slice A0 n c)) (hx : ev E x = some (.slice A m cc))
    (hk : L[k]? = some (.row (.slice A0 n c) e size n olds)) (hr : ∀ w, Pm w0 L w → ∃ B, Reads w B size A m news) (h1 : ∀ u ∈ news, u.oneCell' = true) (hlim : (n + m) * bytes ≤ 140737488355328) (M : Nat) (hM : M = n + m) (res : List Value) (hres : olds ++ news = res)
    (h : ∀ A' c', M ≤ c' → c' ≤ maxLen → TL P N ops Q l ((d, .slice A' M c') :: E) (Pm w0 (L.set k (.row (.slice A' M c') e size M res)))) : TL P N ops Q (o :: l) E (Pm w0 L) := by
  subst hM hres
  refine TL.run (α := { p : Option Addr × Nat // n + m ≤ p.2 ∧ p.2 ≤ maxLen }) (r := fun p => .slice p.1.1 (n + m) p.1.2) (I' := fun p => Pm w0 (L.set k (.row (.slice p.1.1 (n + m) p.1.2) e size (n + m) (olds ++ news)))) hg hd hN (fun a w ha hw => ?_) (fun p => h p.1.1 p.1.2 p.2.1 p.2.2)
  obtain ⟨i, z, hi, hz, hsz, hby, hzs⟩ := hE.info
  obtain ⟨B, hrd⟩ := hr w hw
  have hmx : n + m ≤ maxLen := by
    have : n + m ≤ (n + m) * bytes := Nat.le_mul_of_pos_right _ hE.big
    unfold maxLen; omega
  obtain ⟨v', w', hrun, hown', hgr, hkey⟩ := run_append_any (P := P) w w0.b t o.type e i z size bytes hE.und hi hz hsz hby hzs hE.pos _ n olds (hw.at_ hk) B A m cc news hrd h1 hmx hlim hw.base
  rw [← append_types hE.und hu] at hrun
  obtain ⟨A', c', rfl, hc1, hc2⟩ := own_shape hown'
  refine ⟨⟨(A', c'), hc1, hc2⟩, w', ?_, hw.turn hk hgr hown' (fun g hg => ?_) (fun k o e => ?_)⟩
  · unfold execOp; rw [ho]
    simp only [resolve, invoke, builtin, Sem.run_bind, Sem.run_pure, Result.andThen_ok, List.map_toArray, List.map_cons, List.map_nil, ha.eval hs, ha.eval hx, hrun]
  · rcases hkey with hkey | hkey
    · exact .inl (hkey.symm.trans hg)
    · right
      have : (Value.slice A' (n + m) c').ownBlock = some g := hg
      rw [hkey] at this
      injection this with this
      omega
  · cases e
/-! guards in a quiet drawn region -/
theorem TQ.on {R : Act → Prop} {j d : Nat} {b : Bool} (hg : o.guard = some (j, b)) (hd : (ops[j]?).bind (·.dst) = some d) (hE : look E d = some (.bool b)) (h : TQ P N ops R ({ o with guard := none } :: l) E I) : TQ P N ops R (o :: l) E I := fun a ha => by
  have hw1 := wanted_of ha hg hd hE
  have := h a ha
  unfold wpQuiet at this ⊢
  rw [if_pos (by simp [Region.wanted])] at this
  rw [if_pos (by simp [hw1])]
  exact this
theorem TQ.off {R : Act → Prop} {j d t : Nat} {b b' : Bool} (hg : o.guard = some (j, b')) (hd : (ops[j]?).bind (·.dst) = some d) (hE : look E d = some (.bool b)) (hne : (b == b') = false) (ht : o.dst = some t) (hN : Nat.blt t N.n = true) (h : TQ P N ops R l ((t, undef) :: E) I) : TQ P N ops R (o :: l) E I := fun a ha => by
  have hw1 := wanted_of ha hg hd hE
  unfold wpQuiet
  rw [if_neg (by rw [hw1, hne]; decide), ht]
  exact h _ (ha.put t undef (by simpa [Nat.blt_eq] using hN))
theorem TQ.offU {R : Act → Prop} {j d t : Nat} {b' : Bool} (hg : o.guard = some (j, b')) (hd : (ops[j]?).bind (·.dst) = some d) (hE : look E d = some undef) (ht : o.dst = some t) (hN : Nat.blt t N.n = true) (h : TQ P N ops R l ((t, undef) :: E) I) : TQ P N ops R (o :: l) E I := fun a ha => by
  have h1 : yielded ops a.tmps j = none := by
    have := ha.slot d _ hE
    simp [yielded, hd, this, undef]
  have hw1 : Region.wanted o (yielded ops a.tmps) = false := by
    unfold Region.wanted
    rw [hg]
    simp [h1]
  unfold wpQuiet
  rw [if_neg (by rw [hw1]; decide), ht]
  exact h _ (ha.put t undef (by simpa [Nat.blt_eq] using hN))
/-- a struct that is read -/
theorem gives_loadR {t : TypeId} {x : Operand} {b off size : Nat} {cs : List Value} (ho : o.op = .load t x) (hx : ev E x = some (.pointer (some ⟨b, off, none⟩))) (hag : ∀ w : World, (isAgg t).run P w = .ok true w) (hs : ∀ w : World, (sizeOf t).run P w = .ok size w) (hlen : cs.length = size)
    (hc : ∀ w, I w → ∀ (j : Nat) (u : Value), cs[j]? = some u → w.cell? ⟨b, off + j, none⟩ = some u) : Gives P N o E I (.agg cs.toArray) := fun a w ha hw => by
  unfold execOp; rw [ho]
  simp only [ha.eval hx]
  have hl := run_loadCells_list (P := P) w ⟨b, off, none⟩ cs (fun j v hj => by
    have hadd : (⟨b, off, none⟩ : Addr).add j = ⟨b, off + j, none⟩ := by unfold Addr.add; split <;> simp_all
    rw [hadd]
    exact hc w hw j v hj)
  rw [hlen] at hl
  simp only [Instr.loadAt, Instr.sureAddr, Sem.run_bind, Sem.run_pure, Result.andThen_ok, loadVar, hag, hs, hl, if_true]
end
end Go.Proofs.Ytleckflmckbheaa

namespace Go.Proofs.Ytleckflmckbheaa
open Go.RowKit
open Go.WideElems (Fit rg)
set_option linter.unusedVariables false
set_option linter.unusedSimpArgs false
/-- a type of maps from numbers to numbers -/
structure IMap (P : Program) (t k e : TypeId) (qk qe : IntKind) : Prop where
  ht : P.underlying t = some (.map k e)
  hk : P.underlying k = some (.int qk)
  he : P.underlying e = some (.int qe)
  hz : ∀ w : World, (zeroValue e).run P w = .ok (.int qe 0) w
/-- object o is a map of n entries that maps as f does -/
def MapII (P : Program) (k e : TypeId) (qk qe : IntKind) (o : Obj) (n : Nat) (f : Int → Option Int) : Prop :=
  ∃ (es : Array MapEntry) (clock : Nat) (D : DataW Unit), o = .map es clock ∧ Fit (H := Unit) P k (plainElem P e) es clock ∧ es.size = n ∧ D = .map ((es.toList.map (rg P k (plainElem P e))).foldr DataW.insert []) ∧
    ∀ a, (Lit.int qk a).wf = true → Maps.has D (.int qk a) = (f a).isSome ∧ D.atKey (.int qk a) (.lit (.int qe 0)) = .lit (.int qe ((f a).getD 0))
section
variable {P : Program} {t k e : TypeId} {qk qe : IntKind} {o : Obj} {n g : Nat} {f : Int → Option Int} {w : World}
theorem MapII.owns (h : MapII P k e qk qe o n f) (hb : w.heap[g]? = some o) : ∃ D : DataW Unit, (w.ownsMap P k (plainElem P e) g n D ∧ Maps.size D = n) ∧ ∀ a, (Lit.int qk a).wf = true → Maps.has D (.int qk a) = (f a).isSome ∧ D.atKey (.int qk a) (.lit (.int qe 0)) = .lit (.int qe ((f a).getD 0)) := by
  obtain ⟨es, clock, D, rfl, F, hs, hD, hf⟩ := h
  exact ⟨D, ⟨⟨es, clock, hb, F, Nat.le_of_eq hs, hD⟩, by rw [hD, ← hs]; rw [Maps.size, length_read]⟩, hf⟩
theorem MapII.of_owns {D : DataW Unit} {m : Nat} (h : w.ownsMap P k (plainElem P e) g n D) (hm : Maps.size D = m) (hf : ∀ a, (Lit.int qk a).wf = true → Maps.has D (.int qk a) = (f a).isSome ∧ D.atKey (.int qk a) (.lit (.int qe 0)) = .lit (.int qe ((f a).getD 0))) : ∃ o, w.heap[g]? = some o ∧ MapII P k e qk qe o m f := by
  obtain ⟨es, clock, hb, F, hs, hD⟩ := h
  exact ⟨_, hb, es, clock, D, rfl, F, by rw [← hm, hD]; rw [Maps.size, length_read], hD, hf⟩
theorem mapII_new (P : Program) (k e : TypeId) (qk qe : IntKind) : MapII P k e qk qe (.map #[] 0) 0 (fun _ => none) := by
  let w : World := default
  obtain ⟨o, ho, hm⟩ := MapII.of_owns (qk := qk) (qe := qe) (f := fun _ => none) (World.ownsMap_made (H := Unit) w P k (plainElem P e)) rfl (fun a _ => ⟨rfl, rfl⟩)
  have : o = .map #[] 0 := by
    have h2 := heap_alloc_new w (.map #[] 0)
    rw [ho] at h2
    exact Option.some.inj h2
  rw [← this]
  exact hm
theorem MapII.look (h : MapII P k e qk qe o n f) (T : IMap P t k e qk qe) (hb : w.heap[g]? = some o) {a : Int} (ha : (Lit.int qk a).wf = true) : (Instr.lookup t (.map (some g)) (.int qk a) false).run P w = .ok (.int qe ((f a).getD 0)) w := by
  obtain ⟨D, ⟨hD, hsz⟩, hf⟩ := h.owns hb
  obtain ⟨c, hrun, hat, _⟩ := hD.lookup_int (Maps.int_keyed T.hk) T.ht T.he (T.hz w) (Maps.keyOf_int_mk T.hk ha)
  rw [(hf a ha).2] at hat
  have : (f a).getD 0 = c := by injection hat with hat; injection hat
  rw [this]
  exact hrun
theorem MapII.lookOk (h : MapII P k e qk qe o n f) (T : IMap P t k e qk qe) (hb : w.heap[g]? = some o) {a : Int} (ha : (Lit.int qk a).wf = true) : (Instr.lookup t (.map (some g)) (.int qk a) true).run P w = .ok (.tuple #[.int qe ((f a).getD 0), .bool (f a).isSome]) w := by
  obtain ⟨D, ⟨hD, hsz⟩, hf⟩ := h.owns hb
  have hw0 : (Lit.int qe 0).wf = true := by cases qe <;> decide
  obtain ⟨v, ps, hrun, hv⟩ := hD.look_ok (Maps.int_keyed T.hk) T.ht (T.hz w) (plainElem_int T.he hw0) (Maps.keyOf_int_mk T.hk ha)
  obtain ⟨c, rfl, hc, _⟩ := plainElem_int_inv T.he hv
  simp only [Prod.mk.injEq] at hc
  have hc1 := hc.1
  rw [(hf a ha).2] at hc1
  have : (f a).getD 0 = c := by injection hc1 with hc1; injection hc1
  rw [this, ← (hf a ha).1]
  exact hrun
theorem MapII.put (h : MapII P k e qk qe o n f) (T : IMap P t k e qk qe) (hn : n < maxLen) (hb : w.heap[g]? = some o) {a b : Int} (ha : (Lit.int qk a).wf = true) (hbw : (Lit.int qe b).wf = true) :
    ∃ o' w', (Instr.mapUpdate t (.map (some g)) (.int qk a) (.int qe b)).run P w = .ok () w' ∧ w'.heap[g]? = some o' ∧ MapII P k e qk qe o' (if (f a).isSome then n else n + 1) (fun z => if z = a then some b else f z) ∧ w.grownBy w' (some g) := by
  obtain ⟨D, ⟨hD, hsz⟩, hf⟩ := h.owns hb
  have hk := Maps.keyOf_int_mk T.hk ha
  obtain ⟨w', hrun, hD', hg⟩ := hD.update (Maps.int_keyed T.hk) T.ht hn hk (plainElem_int T.he hbw)
  obtain ⟨o', ho', hm'⟩ := MapII.of_owns (qk := qk) (qe := qe) (f := fun z => if z = a then some b else f z) hD' (by rw [Maps.size_put (hD.tidy (Maps.int_keyed T.hk)), hsz, (hf a ha).1]) (fun z hz => by
    by_cases e1 : z = a
    · subst e1
      rw [if_pos rfl]
      exact ⟨Maps.has_put_same hD.isMap ((Maps.int_keyed T.hk).key hk) _, Maps.atKey_put_same hD.isMap ((Maps.int_keyed T.hk).key hk) _ _⟩
    · have hne : (Lit.int qk z) ≠ .int qk a := fun hh => e1 (by injection hh)
      rw [if_neg e1, Maps.has_put_other hne, Maps.atKey_put_other hne]
      exact hf z hz)
  exact ⟨o', w', hrun, ho', hm', hg⟩
end
section
variable {P : Program} {N : Fr} {Q : Exit → Act → World → Prop} {E : Env} {w0 : Base} {L : List Pc} {ops : Array Oper} {l : List Oper} {o : Oper} {w w' : World}
/-- an object that the walk may change: one that is new, or that the walk is seen to own -/
def Mine (w0 : Base) (g : Nat) : Prop := ∀ o, w0.w.heap[g]? = some o → o.isCells = true
theorem mine_new {w0 : Base} {g : Nat} (h : w0.w.heap.size ≤ g) : Mine w0 g := fun o ho => by
  have := (Array.getElem?_eq_some_iff.1 ho).1
  omega
/-- an object of one's own turns into another one -/
theorem Pm.turnO (h : Pm w0 L w) {k g : Nat} {ob ob' : Obj} (hk : L[k]? = some (.oth g ob)) (hnew : Mine w0 g) (hg : w.grownBy w' (some g)) (hb : w'.heap[g]? = some ob') : Pm w0 (L.set k (.oth g ob')) w' := by
  have hpo := h.at_ hk
  refine ⟨h.bel.grown hg h.base fun j e => by cases e; exact hpo.2, fun q hq => ?_, ?_, ⟨Nat.le_trans h.oth.size hg.size, fun j x hj hx => ?_⟩, h.low⟩
  · obtain ⟨i, hi⟩ := List.getElem?_of_mem hq
    rw [List.getElem?_set] at hi
    by_cases e : k = i
    · subst e
      have hlt := (List.getElem?_eq_some_iff.1 hk).1
      simp [hlt] at hi
      subst hi
      exact ⟨hb, hpo.2⟩
    · rw [if_neg e] at hi
      refine Pc.same (h.at_ hi) (fun j hj => hg.block j (Pc.lt (h.at_ hi) j hj).2 fun he => ?_) (fun j hj => hg.block j (Nat.lt_of_lt_of_le hj h.base) fun he => ?_)
      · cases he
        exact h.neq hk hi e g rfl hj
      · cases he
        have := hpo.2
        omega
  · refine List.pairwise_iff_getElem.2 fun i j hi hj hij x hxi hxj => ?_
    have key : ∀ (m : Nat) (hm : m < (L.set k (.oth g ob')).length), ((L.set k (.oth g ob'))[m]).key = (L[m]'(by simpa using hm)).key := fun m hm => by
      rw [List.getElem_set]
      split
      · rename_i e
        subst e
        rw [(List.getElem?_eq_some_iff.1 hk).2]
        rfl
      · rfl
    rw [key] at hxi hxj
    exact List.pairwise_iff_getElem.1 h.apart i j (by simpa using hi) (by simpa using hj) hij x hxi hxj
  · have h1 := h.oth.same j x hj hx
    exact (hg.block j (Array.getElem?_eq_some_iff.1 h1).1 fun he => by cases he; rw [hnew x hj] at hx; cases hx).trans h1
theorem TL.mkmap {d : Nat} {t : TypeId} (hg : o.guard = none) (hd : o.dst = some d) (hN : Nat.blt d N.n = true) (ho : o.op = .makeMap t none)
    (h : ∀ g, Mine w0 g → TL P N ops Q l ((d, .map (some g)) :: E) (Pm w0 (.oth g (.map #[] 0) :: L))) : TL P N ops Q (o :: l) E (Pm w0 L) :=
  TL.run (α := {g : Nat // w0.w.heap.size ≤ g}) (r := fun g => .map (some g.1)) (I' := fun g => Pm w0 (.oth g.1 (.map #[] 0) :: L)) hg hd hN (fun a w ha hw => by
    refine ⟨⟨w.heap.size, hw.oth.size⟩, w.alloc (.map #[] 0), ?_, hw.add ((Below.refl _ _).alloc (Nat.le_refl _) _) ⟨heap_alloc_new w _, Nat.le_refl _⟩⟩
    unfold execOp; rw [ho]
    rfl) (fun g => h g.1 (mine_new g.2))
theorem gives_look {x y : Operand} {t k e : TypeId} {qk qe : IntKind} {g i n : Nat} {ob : Obj} {f : Int → Option Int} {a : Int} (ho : o.op = .lookup t x y false) (hx : ev E x = some (.map (some g))) (hy : ev E y = some (.int qk a)) (T : IMap P t k e qk qe) (hk : L[i]? = some (.oth g ob)) (hm : MapII P k e qk qe ob n f) (ha : (Lit.int qk a).wf = true) :
    Gives P N o E (Pm w0 L) (.int qe ((f a).getD 0)) := fun ac w hac hw => by
  unfold execOp; rw [ho]
  simp only [hac.eval hx, hac.eval hy, hm.look T (hw.at_ hk).1 ha, Sem.run_bind, Result.andThen_ok, Sem.run_pure]
theorem gives_lookOk {x y : Operand} {t k e : TypeId} {qk qe : IntKind} {g i n : Nat} {ob : Obj} {f : Int → Option Int} {a : Int} (ho : o.op = .lookup t x y true) (hx : ev E x = some (.map (some g))) (hy : ev E y = some (.int qk a)) (T : IMap P t k e qk qe) (hk : L[i]? = some (.oth g ob)) (hm : MapII P k e qk qe ob n f) (ha : (Lit.int qk a).wf = true) :
    Gives P N o E (Pm w0 L) (.tuple #[.int qe ((f a).getD 0), .bool (f a).isSome]) := fun ac w hac hw => by
  unfold execOp; rw [ho]
  simp only [hac.eval hx, hac.eval hy, hm.lookOk T (hw.at_ hk).1 ha, Sem.run_bind, Result.andThen_ok, Sem.run_pure]
theorem gives_lookNone {x y : Operand} {t k e : TypeId} {qk qe : IntKind} {g i n : Nat} {ob : Obj} {f : Int → Option Int} {a : Int} (ho : o.op = .lookup t x y true) (hx : ev E x = some (.map (some g))) (hy : ev E y = some (.int qk a)) (T : IMap P t k e qk qe) (hk : L[i]? = some (.oth g ob)) (hm : MapII P k e qk qe ob n f) (ha : (Lit.int qk a).wf = true) (hf : f a = none) :
    Gives P N o E (Pm w0 L) (.tuple #[.int qe 0, .bool false]) := by
  have := gives_lookOk (N := N) (w0 := w0) ho hx hy T hk hm ha
  rw [hf] at this
  exact this
theorem gives_lookSome {x y : Operand} {t k e : TypeId} {qk qe : IntKind} {g i n : Nat} {ob : Obj} {f : Int → Option Int} {a b : Int} (ho : o.op = .lookup t x y true) (hx : ev E x = some (.map (some g))) (hy : ev E y = some (.int qk a)) (T : IMap P t k e qk qe) (hk : L[i]? = some (.oth g ob)) (hm : MapII P k e qk qe ob n f) (ha : (Lit.int qk a).wf = true) (hf : f a = some b) :
    Gives P N o E (Pm w0 L) (.tuple #[.int qe b, .bool true]) := by
  have := gives_lookOk (N := N) (w0 := w0) ho hx hy T hk hm ha
  rw [hf] at this
  exact this
theorem TL.mapset {x y z : Operand} {t k e : TypeId} {qk qe : IntKind} {g i n : Nat} {ob : Obj} {f : Int → Option Int} {a b : Int} (hg : o.guard = none) (hd : o.dst = none) (ho : o.op = .mapUpdate t x y z) (hx : ev E x = some (.map (some g))) (hy : ev E y = some (.int qk a)) (hz : ev E z = some (.int qe b))
    (T : IMap P t k e qk qe) (hk : L[i]? = some (.oth g ob)) (hnew : Mine w0 g) (hm : MapII P k e qk qe ob n f) (hn : n < maxLen) (ha : (Lit.int qk a).wf = true) (hb : (Lit.int qe b).wf = true)
    (h : ∀ ob', MapII P k e qk qe ob' (if (f a).isSome then n else n + 1) (fun v => if v = a then some b else f v) → TL P N ops Q l E (Pm w0 (L.set i (.oth g ob')))) : TL P N ops Q (o :: l) E (Pm w0 L) := fun ac w hac hw =>
  wpList_plain hg fun K hK => by
    obtain ⟨ob', w', hrun, hob, hm', hgr⟩ := hm.put T hn (hw.at_ hk).1 ha hb
    have hex : (execOp ac.eval o).run P w = .ok .skip w' := by
      unfold execOp; rw [ho]
      simp only [hac.eval hx, hac.eval hy, hac.eval hz, Sem.run_bind, hrun, Result.andThen_ok, Sem.run_pure]
    unfold Oper.wp
    rw [hex]
    show K (ac.put o.dst undef) _
    rw [hd]
    exact hK _ _ (h ob' hm' _ _ (hac.put0 _) (hw.turnO hk hnew hgr hob))
/-- the world as if block g held cells: the base of a walk that may change the object there -/
def wbut (w : World) (g : Nat) : World := { w with heap := w.heap.setIfInBounds g (.cells #[] 0) }
theorem but_other {w : World} {g k : Nat} (h : k ≠ g) : (wbut w g).heap[k]? = w.heap[k]? := by
  show (w.heap.setIfInBounds g _)[k]? = _
  rw [Array.getElem?_setIfInBounds_ne (fun e => h e.symm)]
theorem but_size (w : World) (g : Nat) : (wbut w g).heap.size = w.heap.size := by simp [wbut]
theorem Pm.mapStart {w : World} {g : Nat} {ob : Obj} (hb : w.heap[g]? = some ob) : Pm ⟨wbut w g, g⟩ (.oth g ob :: oths g w) w := by
  have hlt := (Array.getElem?_eq_some_iff.1 hb).1
  refine ⟨⟨rfl, rfl, rfl, Nat.le_of_eq (but_size w g), fun k hk => (but_other (Nat.ne_of_lt hk)).symm⟩, fun q hq => ?_, List.Pairwise.cons (fun q hq x hx he => ?_) (oths_apart g w), ⟨Nat.le_of_eq (but_size w g), fun k o hk ho => ?_⟩, by rw [but_size]; exact Nat.le_of_lt hlt⟩
  · rcases List.mem_cons.1 hq with rfl | hq
    · exact ⟨hb, Nat.le_refl _⟩
    · obtain ⟨k, o, rfl, h1, h2⟩ := oths_ok hq
      exact ⟨h2, Nat.le_of_lt h1⟩
  · obtain ⟨k, o, rfl, h1, h2⟩ := oths_ok hq
    simp only [Pc.key, Option.some.injEq] at hx he
    omega
  · by_cases e : k = g
    · subst e
      have : (wbut w k).heap[k]? = some (.cells #[] 0) := by show (w.heap.setIfInBounds k _)[k]? = _; simp [hlt]
      rw [this] at hk
      cases hk
      cases ho
    · rw [← but_other e]; exact hk
theorem mine_but {w : World} {g b : Nat} : Mine ⟨wbut w g, b⟩ g := fun o ho => by
  have hlt : g < w.heap.size := by have := (Array.getElem?_eq_some_iff.1 ho).1; rwa [but_size] at this
  have : (wbut w g).heap[g]? = some (.cells #[] 0) := by show (w.heap.setIfInBounds g _)[g]? = _; simp [hlt]
  rw [this] at ho
  cases ho
  rfl
/-- what a function leaves that may change the object in block g -/
theorem Pm.mapEnd {w w1 : World} {g : Nat} {L : List Pc} (h : Pm ⟨wbut w g, g⟩ L w1) (hs : ∀ q ∈ oths g w, q ∈ L) : w.grownBy w1 (some g) := by
  refine ⟨h.bel.os, h.bel.tape, h.bel.output, by have := h.bel.size; rwa [but_size] at this, fun k hk hne => ?_⟩
  rcases Nat.lt_trichotomy k g with h1 | h1 | h1
  · exact (h.bel.block k h1).trans (but_other (Nat.ne_of_lt h1))
  · exact absurd (by rw [h1]) hne
  · obtain ⟨o, ho, hm⟩ := oths_mem h1 hk
    exact ((h.own _ (hs _ hm)).1).trans ho.symm
/-- a call that may change the object of piece number k -/
theorem TL.pcallObj {α : Type} {d k g : Nat} {ob : Obj} {f : FuncId} {fn : Func} {xs : List Operand} {ts : Array TypeId} {vs : List Value} (r : α → Value) (M : α → Obj → Prop) (hg : o.guard = none) (hd : o.dst = some d) (hN : Nat.blt d N.n = true)
    (ho : o.op = .call { callee := .value (.func f), args := xs.toArray, argTypes := ts }) (hx : evs E xs = some vs) (hf : P.funcs[f]? = some fn) (hn : (fn.name == "runtime.NumGoroutine") = false) (hb : fn.body.isNone = false)
    (hk : L[k]? = some (.oth g ob)) (hnew : Mine w0 g) (hc : ∀ w, Pm w0 L w → w.heap[g]? = some ob → Calls P f vs.toArray w fun en w' => ∃ x ob', en = .returned (r x) ∧ M x ob' ∧ w'.heap[g]? = some ob' ∧ w.grownBy w' (some g))
    (h : ∀ x ob', M x ob' → TL P N ops Q l ((d, r x) :: E) (Pm w0 (L.set k (.oth g ob')))) : TL P N ops Q (o :: l) E (Pm w0 L) :=
  TL.call (α := {y : α × Obj // M y.1 y.2}) (r := fun y => r y.1.1) (I' := fun y => Pm w0 (L.set k (.oth g y.1.2))) hg hd hN ho hx hf hn hb (fun w hw => (hc w hw (hw.at_ hk).1).mono fun en w' ⟨x, ob', he, hM, hb', hgr⟩ => ⟨⟨(x, ob'), hM⟩, he, hw.turnO hk hnew hgr hb'⟩) (fun y => h y.1.1 y.1.2 y.2)
end
end Go.Proofs.Ytleckflmckbheaa

namespace Go.Proofs.Ytleckflmckbheaa
open Go.RowKit
set_option linter.unusedVariables false
set_option linter.unusedSimpArgs false
def uv (xs : List Int) : List Value := xs.map (Value.int .u32)
theorem uv_len (xs : List Int) : (uv xs).length = xs.length := by simp [uv]
theorem uv_at {xs : List Int} {i : Nat} (h : i < xs.length) : (uv xs)[i]? = some (.int .u32 (dx xs i)) := by
  unfold uv dx
  rw [List.getElem?_map, List.getD_eq_getElem?_getD, List.getElem?_eq_getElem h]
  rfl
theorem uv_set {xs : List Int} {i : Nat} (h : i < xs.length) (v : Int) : (uv xs).take i ++ [Value.int .u32 v] ++ (uv xs).drop (i + 1) = uv (xs.set i v) := by
  unfold uv
  rw [← List.map_take, ← List.map_drop, List.set_eq_take_append_cons_drop, if_pos h]
  simp
theorem uv_one (xs : List Int) : ∀ u ∈ uv xs, u.oneCell' = true := fun u hu => by
  obtain ⟨a, _, rfl⟩ := List.mem_map.1 hu
  rfl
/-- block g holds a row of numbers -/
def Rw (e : TypeId) (w : World) (g n c : Nat) (xs : List Int) : Prop := w.ownsRow g e 1 (.slice (some ⟨g, 0, none⟩) n c) n (uv xs)
theorem Rw.len {e : TypeId} {w : World} {g n c : Nat} {xs : List Int} (h : Rw e w g n c xs) : xs.length = n := by
  have := h.1
  rw [uv_len] at this
  omega
theorem Rw.obj {e : TypeId} {w : World} {g n c : Nat} {xs : List Int} (h : Rw e w g n c xs) : (∃ o, w.heap[g]? = some o) ∧ n ≤ c ∧ c ≤ maxLen := by
  rcases h.2 with ⟨e1, _⟩ | ⟨g', cap, cur, a, hb, hg, hn, hm, r⟩
  · cases e1
  · cases a
    exact ⟨⟨_, hg⟩, hn, hm⟩
theorem Pm.rowStart {e : TypeId} {w : World} {g n c : Nat} {xs : List Int} (h : Rw e w g n c xs) : Pm ⟨wbut w g, g⟩ (.row (.slice (some ⟨g, 0, none⟩) n c) e 1 n (uv xs) :: oths g w) w := by
  obtain ⟨⟨o, ho⟩, _⟩ := h.obj
  have hp := Pm.mapStart ho
  refine ⟨hp.bel, fun q hq => ?_, ?_, hp.oth, hp.low⟩
  · rcases List.mem_cons.1 hq with rfl | hq
    · exact h
    · exact hp.own q (List.mem_cons_of_mem _ hq)
  · have := List.pairwise_cons.1 hp.apart
    exact List.Pairwise.cons (fun q hq x hx => this.1 q hq x hx) this.2
section
variable {P : Program} {N : Fr} {Q : Exit → Act → World → Prop} {E : Env} {w0 : Base} {L : List Pc} {ops : Array Oper} {l : List Oper} {o : Oper}
theorem at_row {t e : TypeId} (ht : P.underlying t = some (.slice e)) (hs : ∀ w : World, (sizeOf e).run P w = .ok 1 w) (g n c i : Nat) (hi : i < n) {z : Int} (hz : z = (i : Int)) (w : World) :
    (Instr.indexAt t (.slice (some ⟨g, 0, none⟩) n c) (.int .i64 z)).run P w = .ok (.pointer (some ⟨g, i, none⟩)) w := by
  have := at_el (P := P) ht hs (A := some ⟨g, 0, none⟩) (b := g) (off := 0) rfl n c i hi hz w
  rwa [Nat.zero_add, Nat.mul_one] at this
theorem pm_rowAt {w : World} {k g n c : Nat} {e : TypeId} {xs : List Int} (h : Pm w0 L w) (hk : L[k]? = some (.row (.slice (some ⟨g, 0, none⟩) n c) e 1 n (uv xs))) : Rw e w g n c xs := by
  have h1 := h.at_ hk
  refine ⟨h1.1, ?_⟩
  rcases h1.2 with ⟨e1, _⟩ | ⟨g', cap, cur, a, hb, r⟩
  · cases e1
  · cases a
    exact .inr ⟨g, _, cur, rfl, Nat.le_refl _, r⟩
theorem Pm.rowTurn {w w' : World} {k g n c : Nat} {e : TypeId} {xs ys : List Int} (h : Pm w0 L w) (hk : L[k]? = some (.row (.slice (some ⟨g, 0, none⟩) n c) e 1 n (uv xs))) (hr : Rw e w' g n c ys) (hg : w.grownBy w' (some g)) : Pm w0 (L.set k (.row (.slice (some ⟨g, 0, none⟩) n c) e 1 n (uv ys))) w' := by
  have h1 := h.at_ hk
  have hb : w0.b ≤ g := (Pc.lt h1 g rfl).1
  exact h.turn hk hg (own_base hr hb) (fun g' hg' => .inl hg') (fun _ _ e => by cases e)
/-- a store of a number into row number k -/
theorem TL.uset {t e : TypeId} {x y : Operand} {g i k n c : Nat} {v : Int} {xs : List Int} (hg : o.guard = none) (hd : o.dst = none) (ho : o.op = .store t x y) (hx : ev E x = some (.pointer (some ⟨g, i, none⟩))) (hy : ev E y = some (.int .u32 v))
    (hk : L[k]? = some (.row (.slice (some ⟨g, 0, none⟩) n c) e 1 n (uv xs))) (hs : ∀ w : World, (sizeOf t).run P w = .ok 1 w) (hi : i < xs.length)
    (h : TL P N ops Q l E (Pm w0 (L.set k (.row (.slice (some ⟨g, 0, none⟩) n c) e 1 n (uv (xs.set i v)))))) : TL P N ops Q (o :: l) E (Pm w0 L) :=
  TL.rowset (vs := [.int .u32 v]) hg hd ho hx hy hk rfl hs (by intro u hu; rw [List.mem_singleton] at hu; subst hu; rfl) (by rw [uv_len]; exact hi) (uv_set hi v) h
/-- a number of row number k -/
theorem pm_loadU {t e : TypeId} {x : Operand} {g i k n c : Nat} {xs : List Int} (ho : o.op = .load t x) (hx : ev E x = some (.pointer (some ⟨g, i, none⟩))) (hag : ∀ w : World, (isAgg t).run P w = .ok false w)
    (hk : L[k]? = some (.row (.slice (some ⟨g, 0, none⟩) n c) e 1 n (uv xs))) (hi : i < xs.length) : Gives P N o E (Pm w0 L) (.int .u32 (dx xs i)) := pm_loadRow ho hx hag hk (uv_at hi)
/-- a call that may change row number k -/
theorem TL.pcallRw {α : Type} {d k g n c : Nat} {e : TypeId} {xs : List Int} {f : FuncId} {fn : Func} {es : List Operand} {ts : Array TypeId} {vs : List Value} (r : α → Value) (M : α → List Int → Prop) (hg : o.guard = none) (hd : o.dst = some d) (hN : Nat.blt d N.n = true)
    (ho : o.op = .call { callee := .value (.func f), args := es.toArray, argTypes := ts }) (hx : evs E es = some vs) (hf : P.funcs[f]? = some fn) (hn : (fn.name == "runtime.NumGoroutine") = false) (hb : fn.body.isNone = false)
    (hk : L[k]? = some (.row (.slice (some ⟨g, 0, none⟩) n c) e 1 n (uv xs))) (hc : ∀ w, Pm w0 L w → Rw e w g n c xs → Calls P f vs.toArray w fun en w' => ∃ x ys, en = .returned (r x) ∧ M x ys ∧ Rw e w' g n c ys ∧ w.grownBy w' (some g))
    (h : ∀ x ys, M x ys → TL P N ops Q l ((d, r x) :: E) (Pm w0 (L.set k (.row (.slice (some ⟨g, 0, none⟩) n c) e 1 n (uv ys))))) : TL P N ops Q (o :: l) E (Pm w0 L) :=
  TL.call (α := {y : α × List Int // M y.1 y.2}) (r := fun y => r y.1.1) (I' := fun y => Pm w0 (L.set k (.row (.slice (some ⟨g, 0, none⟩) n c) e 1 n (uv y.1.2)))) hg hd hN ho hx hf hn hb (fun w hw => (hc w hw (pm_rowAt hw hk)).mono fun en w' ⟨x, ys, he, hM, hr, hgr⟩ => ⟨⟨(x, ys), hM⟩, he, hw.rowTurn hk hr hgr⟩) (fun y => h y.1.1 y.1.2 y.2)
/-- such a call whose result goes nowhere -/
theorem TL.pcallRw0 {α : Type} {k g n c : Nat} {e : TypeId} {xs : List Int} {f : FuncId} {fn : Func} {es : List Operand} {ts : Array TypeId} {vs : List Value} (M : List Int → Prop) (hg : o.guard = none) (hd : o.dst = none)
    (ho : o.op = .call { callee := .value (.func f), args := es.toArray, argTypes := ts }) (hx : evs E es = some vs) (hf : P.funcs[f]? = some fn) (hn : (fn.name == "runtime.NumGoroutine") = false) (hb : fn.body.isNone = false)
    (hk : L[k]? = some (.row (.slice (some ⟨g, 0, none⟩) n c) e 1 n (uv xs))) (hc : ∀ w, Pm w0 L w → Rw e w g n c xs → Calls P f vs.toArray w fun en w' => ∃ ys, en = .returned (.tuple #[]) ∧ M ys ∧ Rw e w' g n c ys ∧ w.grownBy w' (some g))
    (h : ∀ ys, M ys → TL P N ops Q l E (Pm w0 (L.set k (.row (.slice (some ⟨g, 0, none⟩) n c) e 1 n (uv ys))))) : TL P N ops Q (o :: l) E (Pm w0 L) := fun a w ha hw =>
  wpList_plain hg fun K hK => by
    unfold Oper.wp
    rw [enters ha ho hx hf hn hb, Oper.upon_enter]
    refine (hc w hw (pm_rowAt hw hk)).mono ?_
    rintro e w' ⟨ys, rfl, h1, h2, h3⟩
    show K (a.put o.dst _) w'
    rw [hd]
    exact hK _ _ (h ys h1 _ _ (ha.put0 _) (hw.rowTurn hk h2 h3))
theorem bin_quoi {m n : Int} {xt : TypeId} (h0 : 0 ≤ m) (h1 : 0 < n) (hm : m < 9223372036854775808) (w : World) : (binOp .quo xt (.int .i64 m) (.int .i64 n)).run P w = .ok (.int .i64 (m / n)) w := by
  have hne : n ≠ 0 := by omega
  have hd : m / n ≤ m := Int.ediv_le_self _ h0
  have hd0 : 0 ≤ m / n := Int.ediv_nonneg h0 (by omega)
  have : IntKind.wrap .i64 (m.tdiv n) = m / n := by
    rw [Int.tdiv_eq_ediv_of_nonneg h0]
    simp only [IntKind.wrap_i64]; omega
  simp [binOp, go_sem, hne, this]
end
end Go.Proofs.Ytleckflmckbheaa

namespace Go.Proofs.Ytleckflmckbheaa
open Go.RowKit
set_option linter.unusedVariables false
set_option linter.unusedSimpArgs false
section
variable {P : Program} {N : Fr} {Q : Exit → Act → World → Prop} {E : Env} {ops : Array Oper} {l : List Oper} {o : Oper} {I : World → Prop}
theorem gives_max0 {x y : Operand} {ts : Array TypeId} {m : Nat} (ho : o.op = .call { callee := .builtin .max, args := #[x, y], argTypes := ts }) (hx : ev E x = some (.int .i64 0)) (hy : ev E y = some (.int .i64 (m : Int))) : Gives P N o E I (.int .i64 (m : Int)) := fun a w ha _ => by
  unfold execOp; rw [ho]
  simp only [resolve, invoke, builtin, Sem.run_bind, Sem.run_pure, Result.andThen_ok, List.map_toArray, List.map_cons, List.map_nil, ha.eval hx, ha.eval hy]
  simp [go_sem, Builtin.max_, Builtin.max2]
  try omega
theorem bin_eqb {t : TypeId} (ht : P.underlying t = some .bool) {x y : Operand} (a b : Bool) (w : World) : (do eqGuard .eql t x y (.bool a) (.bool b); binOp .eql t (.bool a) (.bool b) : Sem Value).run P w = .ok (.bool (a == b)) w := by
  have h : (eqGuard .eql t x y (.bool a) (.bool b) : Sem Unit).run P w = .ok () w := by simp [eqGuard, go_sem]
  have h2 : (binOp .eql t (.bool a) (.bool b) : Sem Value).run P w = .ok (.bool (a == b)) w := by
    have e : (Op.equalIn Op.maxDepth t (.bool a) (.bool b)).run P w = .ok (a == b) w := by
      rw [show Op.maxDepth = 9999 + 1 from rfl]
      exact run_equalIn_bool w 9999 t a b ht
    simp [binOp, Op.equal, go_sem, e]
  simp only [Sem.run_bind, h, Result.andThen_ok, h2]
theorem bin_geq_t {xt : TypeId} {k : IntKind} {m n : Int} (h : m ≥ n) (w : World) : (binOp .geq xt (.int k m) (.int k n)).run P w = .ok (.bool true) w := by rw [bin_geq, decide_eq_true h]
theorem bin_geq_f {xt : TypeId} {k : IntKind} {m n : Int} (h : ¬ m ≥ n) (w : World) : (binOp .geq xt (.int k m) (.int k n)).run P w = .ok (.bool false) w := by rw [bin_geq, decide_eq_false h]
theorem bin_leq_t {xt : TypeId} {k : IntKind} {m n : Int} (h : m ≤ n) (w : World) : (binOp .leq xt (.int k m) (.int k n)).run P w = .ok (.bool true) w := by rw [bin_leq, decide_eq_true h]
theorem bin_leq_f {xt : TypeId} {k : IntKind} {m n : Int} (h : ¬ m ≤ n) (w : World) : (binOp .leq xt (.int k m) (.int k n)).run P w = .ok (.bool false) w := by rw [bin_leq, decide_eq_false h]
end
end Go.Proofs.Ytleckflmckbheaa

namespace Go.Proofs.Ytleckflmckbheaa
open Go.RowKit
set_option linter.unusedVariables false
set_option linter.unusedSimpArgs false
set_option maxRecDepth 20000

/-- block cb holds choices: a slice of bytes that lies below cb, and a place in it -/
def Cod (w : World) (cb : Nat) : Prop :=
  ∃ A m c l k, Blk w cb 71 #[.slice A m c, .int .i64 ((k : Nat) : Int)] ∧ k ≤ m ∧ m ≤ 1000000 ∧ Byt w cb A m l

theorem Cod.lt {w : World} {cb : Nat} (h : Cod w cb) : cb < w.heap.size := by
  obtain ⟨A, m, c, l, k, hb, _⟩ := h
  exact hb.lt
theorem Cod.keep {w w' : World} {cb : Nat} (h : Cod w cb) (hk : ∀ b, b ≤ cb → w'.heap[b]? = w.heap[b]?) : Cod w' cb := by
  obtain ⟨A, m, c, l, k, hb, h1, h2, h3⟩ := h
  exact ⟨A, m, c, l, k, (hk cb (Nat.le_refl _)).trans hb, h1, h2, h3.keep fun p hp => World.cell?_of_block (hk _ (Nat.le_of_lt hp))⟩
theorem Cod.below {w w' : World} {cb B : Nat} (h : Cod w cb) (hb : Below B w w') (hB : cb < B) : Cod w' cb := h.keep fun b hb' => hb.block b (by omega)
theorem Cod.alloc {w : World} {cb : Nat} (h : Cod w cb) (o : Obj) : Cod (w.alloc o) cb := h.keep fun b hb' => Below.heap_alloc w o b (Nat.lt_of_le_of_lt hb' h.lt)
theorem Cod.drewN {w : World} {cb : Nat} (h : Cod w cb) (n : Nat) : Cod (w.drewN n) cb := h

theorem new_any (A : Option Addr) (n c : Nat) (l : List Int) (w : World) (mo : Int) (h : Byt w w.heap.size A n l) (hc : n ≤ c) (hn : (n : Int) ≤ 9223372036854775807) (h0 : 0 ≤ mo) (h1 : mo ≤ 1000000) :
    Calls Try.prog 34 #[.slice A n c, .int .i64 mo] w fun e w' => e = .returned (.pointer (some ⟨w.heap.size, 0, none⟩)) ∧ Cod w' w.heap.size ∧ Below w.heap.size w w' ∧ w'.heap.size = w.heap.size + 1 := by
  obtain ⟨mo, rfl⟩ := Int.eq_ofNat_of_zero_le h0
  have key : ∀ (m : Nat), m ≤ 1000000 → m ≤ n → Cod (w.alloc (.cells #[.slice A m c, .int .i64 0] 71)) w.heap.size := fun m hm hmn =>
    ⟨A, m, c, l.take m, 0, Blk.new _ _ _, Nat.zero_le _, hm, (h.head hmn).alloc (Nat.le_refl _) _⟩
  have hb : ∀ o, Below w.heap.size w (w.alloc o) := fun o => (Below.refl _ _).alloc (Nat.le_refl _) o
  by_cases hlt : mo < n
  · have k1 := Lib.hid (key mo (by omega) (by omega))
    clear key
    go_enter Try.func34, Try.ntmps34
    go_wp2
    go_ret
    exact ⟨rfl, k1.out, hb _, by simp⟩
  · have k1 := Lib.hid (key n (by omega) (by omega))
    clear key
    go_enter Try.func34, Try.ntmps34
    go_wp2
    go_ret
    exact ⟨rfl, k1.out, hb _, by simp⟩

theorem next_end (cb : Nat) (w : World) (n : Int) (A : Option Addr) (m c : Nat) (k : Nat) (hb : Blk w cb 71 #[.slice A m c, .int .i64 k]) (hk : k ≤ 1000000) (h : m ≤ k ∨ n < 1) :
    Calls Try.prog 21 #[.pointer (some ⟨cb, 0, none⟩), .int .i64 n] w fun e w' => e = .returned (.int .i64 0) ∧ ∃ q, w' = w.drewN q := by
  have hc0 := hb.cell 0
  have hc1 := hb.cell 1
  simp at hc0 hc1
  by_cases hm : m ≤ k
  · clear h
    go_enter Try.func21, Try.ntmps21
    go_wp2
    go_quiet (fail)
    go_wp2
    go_ret
    exact ⟨rfl, _, rfl⟩
  · have h : n < 1 := by omega
    go_enter Try.func21, Try.ntmps21
    go_wp2
    go_quiet (fail)
    go_wp2
    go_ret
    exact ⟨rfl, _, rfl⟩

theorem next_small (cb : Nat) (w : World) (n : Int) (ad : Addr) (m c : Nat) (k : Nat) (x : Int) (hb : Blk w cb 71 #[.slice (some ad) m c, .int .i64 k]) (hk : k < m) (hm : m ≤ 1000000) (h0 : 1 ≤ n) (h1 : n ≤ 256)
    (hx : w.cell? (ad.add k) = some (.int .u8 x)) (hx0 : 0 ≤ x) (hx1 : x ≤ 255) :
    Calls Try.prog 21 #[.pointer (some ⟨cb, 0, none⟩), .int .i64 n] w fun e w' => e = .returned (.int .i64 (x % n)) ∧ ∃ q, w' = (w.drewN q).setCell ⟨cb, 1, none⟩ (.int .i64 ((k + 1 : Nat) : Int)) := by
  have hc0 := hb.cell 0
  have hc1 := hb.cell 1
  have hf0 := hb.frozen 0
  have hf1 := hb.frozen 1
  simp at hc0 hc1
  go_enter Try.func21, Try.ntmps21
  go_wp2
  go_quiet (fail)
  go_wp2
  go_quiet (fail)
  go_wp2
  go_ret
  exact ⟨rfl, _, rfl⟩

/-- what a choice leaves: block cb alone has turned -/
theorem Cod.moved {w : World} {cb : Nat} {A : Option Addr} {m c k : Nat} {l : List Int} (hb : Blk w cb 71 #[.slice A m c, .int .i64 k]) (hk : k + 1 ≤ m) (hm : m ≤ 1000000) (hl : Byt w cb A m l) (q : Nat) :
    Cod ((w.drewN q).setCell ⟨cb, 1, none⟩ (.int .i64 ((k + 1 : Nat) : Int))) cb ∧ w.grownBy ((w.drewN q).setCell ⟨cb, 1, none⟩ (.int .i64 ((k + 1 : Nat) : Int))) (some cb) := by
  refine ⟨⟨A, m, c, l, k + 1, ?_, hk, hm, ?_⟩, ?_⟩
  · exact (hb.drewN q).set_ 1 _
  · exact (hl.drewN q).keep fun p hp => World.cell?_setCell_other _ _ _ _ (fun e => by subst e; simp at hp)
  · refine ⟨rfl, rfl, rfl, by simp, fun i hi hne => ?_⟩
    exact (Below.heap_setCell (w.drewN q) _ _ i (fun e => hne (by rw [e])))

def Chosen (n : Int) (w : World) (cb : Nat) (e : Ending) (w' : World) : Prop :=
  ∃ x : Int, e = .returned (.int .i64 x) ∧ 0 ≤ x ∧ x ≤ 65535 ∧ (1 ≤ n → x < n) ∧ Cod w' cb ∧ w.grownBy w' (some cb) ∧ w'.heap.size ≤ w.heap.size

theorem next_256 (cb : Nat) (w : World) (n : Int) (h : Cod w cb) (hn : n ≤ 256) :
    Calls Try.prog 21 #[.pointer (some ⟨cb, 0, none⟩), .int .i64 n] w (Chosen n w cb) := by
  obtain ⟨A, m, c, l, k, hb, hk, hm, hl⟩ := h
  by_cases hd : m ≤ k ∨ n < 1
  · refine (next_end cb w n A m c k hb (by omega) hd).mono fun e w' ⟨he, q, hw⟩ => ?_
    subst hw
    refine ⟨0, he, by omega, by omega, by omega, ⟨A, m, c, l, k, hb.drewN q, hk, hm, hl.drewN q⟩, ⟨rfl, rfl, rfl, Nat.le_refl _, fun _ _ _ => rfl⟩, Nat.le_refl _⟩
  · have hkm : k < m := by omega
    obtain ⟨ad, x, rfl, _, _, hx0, hx1, hc⟩ := hl.at_ hkm
    refine (next_small cb w n ad m c k x hb hkm hm (by omega) hn hc hx0 hx1).mono fun e w' ⟨he, q, hw⟩ => ?_
    subst hw
    obtain ⟨m1, m2⟩ := Cod.moved hb hkm hm hl q
    have e1 : 0 ≤ x % n := Int.emod_nonneg _ (by omega)
    have e2 : x % n < n := Int.emod_lt_of_pos _ (by omega)
    exact ⟨x % n, he, e1, by omega, fun _ => e2, m1, m2, by simp⟩

theorem next_big (cb : Nat) (w : World) (n : Int) (ad : Addr) (m c : Nat) (k : Nat) (x : Int) (hb : Blk w cb 71 #[.slice (some ad) m c, .int .i64 k]) (hk : k < m) (hm : m ≤ 1000000) (h1 : 256 < n)
    (hx : w.cell? (ad.add k) = some (.int .u8 x)) (hx0 : 0 ≤ x) (hx1 : x ≤ 255) (hC : ∀ q, Cod ((w.drewN q).setCell ⟨cb, 1, none⟩ (.int .i64 ((k + 1 : Nat) : Int))) cb) :
    Calls Try.prog 21 #[.pointer (some ⟨cb, 0, none⟩), .int .i64 n] w fun e w' => ∃ y q, e = .returned (.int .i64 ((256 * x + y) % n)) ∧ 0 ≤ y ∧ y ≤ 255 ∧ Cod w' cb ∧ ((w.drewN q).setCell ⟨cb, 1, none⟩ (.int .i64 ((k + 1 : Nat) : Int))).grownBy w' (some cb) ∧ w'.heap.size ≤ w.heap.size := by
  have hc0 := hb.cell 0
  have hc1 := hb.cell 1
  have hf0 := hb.frozen 0
  have hf1 := hb.frozen 1
  simp at hc0 hc1
  have HC := Lib.hid hC
  clear hC
  go_enter Try.func21, Try.ntmps21
  go_wp2_with fail
  go_quiet (fail)
  go_wp2_with fail
  go_quiet (fail)
  go_wp2_with fail
  refine (next_256 cb _ 256 (HC.out _) (by omega)).mono ?_
  rintro e w' ⟨y, rfl, hy0, _, hy1, hy2, hy3, hy4⟩
  have hy1 := hy1 (by omega)
  go_wp2_with fail
  go_ret
  exact ⟨y, _, rfl, hy0, by omega, hy2, hy3, Nat.le_trans hy4 (by simp)⟩

theorem next_any (cb : Nat) (w : World) (n : Int) (h : Cod w cb) :
    Calls Try.prog 21 #[.pointer (some ⟨cb, 0, none⟩), .int .i64 n] w (Chosen n w cb) := by
  by_cases hn : n ≤ 256
  · exact next_256 cb w n h hn
  · obtain ⟨A, m, c, l, k, hb, hk, hm, hl⟩ := h
    by_cases hd : m ≤ k
    · refine (next_end cb w n A m c k hb (by omega) (.inl hd)).mono fun e w' ⟨he, q, hw⟩ => ?_
      subst hw
      refine ⟨0, he, by omega, by omega, by omega, ⟨A, m, c, l, k, hb.drewN q, hk, hm, hl.drewN q⟩, ⟨rfl, rfl, rfl, Nat.le_refl _, fun _ _ _ => rfl⟩, Nat.le_refl _⟩
    · have hkm : k < m := by omega
      obtain ⟨ad, x, rfl, _, _, hx0, hx1, hc⟩ := hl.at_ hkm
      refine (next_big cb w n ad m c k x hb hkm hm (by omega) hc hx0 hx1 (fun q => (Cod.moved hb hkm hm hl q).1)).mono fun e w' ⟨y, q, he, hy0, hy1, hC, hg, hs⟩ => ?_
      have g := (Cod.moved hb hkm hm hl q).2
      have e1 : 0 ≤ (256 * x + y) % n := Int.emod_nonneg _ (by omega)
      have e2 : (256 * x + y) % n < n := Int.emod_lt_of_pos _ (by omega)
      have e3 : (256 * x + y) % n ≤ 65535 := by
        by_cases hlt : 256 * x + y < n
        · rw [Int.emod_eq_of_lt (by omega) hlt]; omega
        · omega
      refine ⟨_, he, e1, e3, fun _ => e2, hC, ⟨hg.os.trans g.os, hg.tape.trans g.tape, hg.output.trans g.output, Nat.le_trans g.size hg.size, fun i hi hne => ?_⟩, hs⟩
      exact (hg.block i (Nat.lt_of_lt_of_le hi g.size) hne).trans (g.block i hi hne)
end Go.Proofs.Ytleckflmckbheaa

namespace Go.Proofs.Ytleckflmckbheaa
open Go.RowKit
set_option linter.unusedVariables false
set_option linter.unusedSimpArgs false
set_option maxRecDepth 20000
/-- what a function leaves that may change a row of numbers -/
def RC {α : Type} (r : α → Value) (M : α → List Int → Prop) (e : TypeId) (g n c : Nat) (w : World) : Ending → World → Prop := fun en w' => ∃ x ys, en = .returned (r x) ∧ M x ys ∧ Rw e w' g n c ys ∧ w.grownBy w' (some g)
theorem bin_quoi_ {P : Program} {m n r : Int} {xt : TypeId} (h0 : 0 ≤ m) (h1 : 0 < n) (hm : m < 9223372036854775808) (hr : m / n = r) (w : World) : (binOp .quo xt (.int .i64 m) (.int .i64 n)).run P w = .ok (.int .i64 r) w := by rw [← hr]; exact bin_quoi h0 h1 hm w
theorem us1nm78 : (Try.f78.name == "runtime.NumGoroutine") = false := by decide
theorem us1bd78 : Try.f78.body.isNone = false := rfl
theorem us1sz35 (w : World) : (sizeOf 35).run Try.prog w = .ok 1 w := rfl
theorem us1ag35 (w : World) : (isAgg 35).run Try.prog w = .ok false w := rfl
theorem us1nm68 : (Try.f68.name == "runtime.NumGoroutine") = false := by decide
theorem us1bd68 : Try.f68.body.isNone = false := rfl
set_option maxHeartbeats 1000000 in
theorem isnan_any (x : Int) (w : World) : Calls Try.prog 78 #[.int .u32 x] w fun e w' => e = .returned (.bool false) ∧ Below w.heap.size w w' := by
  refine begin_ (vs := [.int .u32 x]) Try.func78 rfl rfl rfl ?_ (Pm.start w)
  refine TC.seq_ ?_
  refine TC.region ?_
  refine TL.val rfl rfl rfl (gives_assign rfl rfl) ?_
  refine TL.end_ ?_
  refine TX.then_ ?_
  refine TC.seq_ ?_
  refine TC.region ?_
  refine TL.val rfl rfl rfl (gives_move rfl rfl) ?_
  refine TL.val rfl rfl rfl (gives_move rfl rfl) ?_
  refine TL.val rfl rfl rfl (gives_bin rfl rfl rfl (fun w => bin_neq_f (rfl) w)) ?_
  refine TL.val rfl rfl rfl (gives_assign rfl rfl) ?_
  refine TL.end_ ?_
  refine TX.then_ ?_
  refine TC.ret_ ?_
  exact ret_tmp Try.results78 rfl (fun w1 hw => ⟨rfl, hw.bel⟩)
set_option maxHeartbeats 1000000 in
theorem less_t (x y : Int) (hlt : x < y) (w : World) : Calls Try.prog 68 #[.int .u32 x, .int .u32 y] w fun e w' => e = .returned (.bool true) ∧ Below w.heap.size w w' := by
  refine begin_ (vs := [.int .u32 x, .int .u32 y]) Try.func68 rfl rfl rfl ?_ (Pm.start w)
  refine TC.seq_ ?_
  refine TC.region ?_
  refine TL.val rfl rfl rfl (gives_assign rfl rfl) ?_
  refine TL.end_ ?_
  refine TX.then_ ?_
  refine TC.seq_ ?_
  refine TC.region ?_
  refine TL.val rfl rfl rfl (gives_move rfl rfl) ?_
  refine TL.pcall1 (r := .bool false) rfl rfl rfl rfl rfl Try.func78 us1nm78 us1bd78 (fun w1 hw => isnan_any _ w1) ?_
  refine TL.val rfl rfl rfl (gives_move rfl rfl) ?_
  refine TL.off rfl rfl rfl rfl rfl rfl ?_
  refine TL.off rfl rfl rfl rfl rfl rfl ?_
  refine TL.off rfl rfl rfl rfl rfl rfl ?_
  refine TL.val rfl rfl rfl (gives_pick rfl rfl rfl) ?_
  refine TL.val rfl rfl rfl (gives_move rfl rfl) ?_
  refine TL.on rfl rfl rfl ?_
  refine TL.val rfl rfl rfl (gives_move rfl rfl) ?_
  refine TL.on rfl rfl rfl ?_
  refine TL.val rfl rfl rfl (gives_move rfl rfl) ?_
  refine TL.on rfl rfl rfl ?_
  refine TL.val rfl rfl rfl (gives_bin rfl rfl rfl (fun w => bin_lss_t (hlt) w)) ?_
  refine TL.val rfl rfl rfl (gives_pick rfl rfl rfl) ?_
  refine TL.val rfl rfl rfl (gives_assign rfl rfl) ?_
  refine TL.end_ ?_
  refine TX.then_ ?_
  refine TC.ret_ ?_
  exact ret_tmp Try.results68 rfl (fun w1 hw => ⟨rfl, hw.bel⟩)
set_option maxHeartbeats 1000000 in
theorem less_f (x y : Int) (hlt : ¬ x < y) (w : World) : Calls Try.prog 68 #[.int .u32 x, .int .u32 y] w fun e w' => e = .returned (.bool false) ∧ Below w.heap.size w w' := by
  refine begin_ (vs := [.int .u32 x, .int .u32 y]) Try.func68 rfl rfl rfl ?_ (Pm.start w)
  refine TC.seq_ ?_
  refine TC.region ?_
  refine TL.val rfl rfl rfl (gives_assign rfl rfl) ?_
  refine TL.end_ ?_
  refine TX.then_ ?_
  refine TC.seq_ ?_
  refine TC.region ?_
  refine TL.val rfl rfl rfl (gives_move rfl rfl) ?_
  refine TL.pcall1 (r := .bool false) rfl rfl rfl rfl rfl Try.func78 us1nm78 us1bd78 (fun w1 hw => isnan_any _ w1) ?_
  refine TL.val rfl rfl rfl (gives_move rfl rfl) ?_
  refine TL.off rfl rfl rfl rfl rfl rfl ?_
  refine TL.off rfl rfl rfl rfl rfl rfl ?_
  refine TL.off rfl rfl rfl rfl rfl rfl ?_
  refine TL.val rfl rfl rfl (gives_pick rfl rfl rfl) ?_
  refine TL.val rfl rfl rfl (gives_move rfl rfl) ?_
  refine TL.on rfl rfl rfl ?_
  refine TL.val rfl rfl rfl (gives_move rfl rfl) ?_
  refine TL.on rfl rfl rfl ?_
  refine TL.val rfl rfl rfl (gives_move rfl rfl) ?_
  refine TL.on rfl rfl rfl ?_
  refine TL.val rfl rfl rfl (gives_bin rfl rfl rfl (fun w => bin_lss_f (hlt) w)) ?_
  refine TL.val rfl rfl rfl (gives_pick rfl rfl rfl) ?_
  refine TL.val rfl rfl rfl (gives_assign rfl rfl) ?_
  refine TL.end_ ?_
  refine TX.then_ ?_
  refine TC.ret_ ?_
  exact ret_tmp Try.results68 rfl (fun w1 hw => ⟨rfl, hw.bel⟩)
set_option maxHeartbeats 1000000 in
theorem ins_any (g n c : Nat) (xs : List Int) (w : World) (h : Rw 35 w g n c xs) (hn : n ≤ 1000000) (a b : Nat) (hab : a ≤ b) (hb : b ≤ n) :
    Calls Try.prog 62 #[.slice (some ⟨g, 0, none⟩) n c, .int .i64 (a : Nat), .int .i64 (b : Nat)] w (RC (α := Unit) (fun _ => .tuple #[]) (fun _ ys => Pin a b xs ys ∧ Srt a b ys) 35 g n c w) := by
  have hl := h.len
  refine begin_ (vs := [.slice (some ⟨g, 0, none⟩) n c, .int .i64 (a : Nat), .int .i64 (b : Nat)]) (I := Pm ⟨wbut w g, g⟩ (.row (.slice (some ⟨g, 0, none⟩) n c) 35 1 n (uv xs) :: oths g w)) Try.func62 rfl rfl rfl ?_ (Pm.rowStart h)
  refine TC.seq_ ?_
  refine TC.region ?_
  refine TL.val rfl rfl rfl (gives_move rfl rfl) ?_
  refine TL.val rfl rfl rfl (gives_bin rfl rfl rfl (fun w => bin_add_ (r := ((a + 1 : Nat) : Int)) (by simp only [IntKind.wrap_i64]; omega) w)) ?_
  refine TL.val rfl rfl rfl (gives_assign rfl rfl) ?_
  refine TL.end_ ?_
  refine TX.then_ ?_
  refine TC.block ?_
  refine TC.loop_ (α := {y : Nat × List Int // a + 1 ≤ y.1 ∧ y.1 ≤ b + 1 ∧ Pin a b xs y.2 ∧ Srt a y.1 y.2 ∧ y.2.length = n}) (fun y => [(0, .slice (some ⟨g, 0, none⟩) n c), (1, .int .i64 ((a : Nat) : Int)), (2, .int .i64 ((b : Nat) : Int)), (6, .int .i64 ((y.1.1 : Nat) : Int))]) (fun y => Pm ⟨wbut w g, g⟩ ([.row (.slice (some ⟨g, 0, none⟩) n c) 35 1 n (uv y.1.2)] ++ oths g w)) (fun y => b + 1 - y.1.1) (⟨(a + 1, xs), Nat.le_refl _, by dsimp only; omega, Pin.refl _ _ _, Srt.one (Nat.le_refl _), hl⟩) ⟨rfl, rfl, rfl, rfl, trivial⟩ (fun w1 hw => hw) ?_
  rintro ⟨⟨i, ys⟩, hi1, hi2, hP, hS0, hly⟩
  dsimp only at hi1 hi2 hP hS0 hly ⊢
  refine TC.seq_ ?_
  refine TC.seq_ ?_
  refine TC.region ?_
  refine TL.val rfl rfl rfl (gives_move rfl rfl) ?_
  refine TL.val rfl rfl rfl (gives_move rfl rfl) ?_
  refine TL.vsplit rfl rfl rfl (gives_bin rfl rfl rfl (fun w => bin_lss w)) (fun h12 => ?_) (fun h12 => ?_)
  · have q12 := of_decide_eq_true h12
    refine TL.end_ ?_
    refine TX.then_ ?_
    refine TC.condT rfl ?_
    refine TC.skip_ ?_
    refine TX.then_ ?_
    refine TC.seq_ ?_
    refine TC.block ?_
    refine TC.seq_ ?_
    refine TC.region ?_
    refine TL.val rfl rfl rfl (gives_move rfl rfl) ?_
    refine TL.val rfl rfl rfl (gives_assign rfl rfl) ?_
    refine TL.end_ ?_
    refine TX.then_ ?_
    refine TC.block ?_
    refine TC.loop_ (α := {y : Nat × List Int // a ≤ y.1 ∧ y.1 ≤ i ∧ Pin a b xs y.2 ∧ Ins a i y.1 y.2 ∧ y.2.length = n}) (fun y => [(0, .slice (some ⟨g, 0, none⟩) n c), (1, .int .i64 ((a : Nat) : Int)), (2, .int .i64 ((b : Nat) : Int)), (6, .int .i64 ((i : Nat) : Int)), (7, .int .i64 ((y.1.1 : Nat) : Int))]) (fun y => Pm ⟨wbut w g, g⟩ ([.row (.slice (some ⟨g, 0, none⟩) n c) 35 1 n (uv y.1.2)] ++ oths g w)) (fun y => y.1.1) (⟨(i, ys), by dsimp only; omega, Nat.le_refl _, hP, Ins.start hS0, hly⟩) ⟨rfl, rfl, rfl, rfl, rfl, trivial⟩ (fun w1 hw => hw) ?_
    rintro ⟨⟨j, zs⟩, hj1, hj2, hQ, hI, hlz⟩
    dsimp only at hj1 hj2 hQ hI hlz ⊢
    refine TC.seq_ ?_
    refine TC.seq_ ?_
    rcases (by omega : ¬ a < j ∨ (a < j ∧ dx zs j < dx zs (j - 1)) ∨ (a < j ∧ ¬ dx zs j < dx zs (j - 1))) with p1 | ⟨p1, p2⟩ | ⟨p1, p2⟩
    · have hS : Srt a (i + 1) zs := hI.stop (fun hh => by omega)
      refine TC.quiet_ (E' := ?_) (by kernel_rfl) (by kernel_rfl) (fun w hw => hw.drawn _) ?_ ?_
      rotate_left
      · refine TQ.val rfl rfl rfl (gives_move rfl rfl) ?_
        refine TQ.val rfl rfl rfl (gives_move rfl rfl) ?_
        refine TQ.val rfl rfl rfl (gives_bin rfl rfl rfl (fun w => bin_gtr_f (by omega) w)) ?_
        refine TQ.val rfl rfl rfl (gives_move rfl rfl) ?_
        refine TQ.off rfl rfl rfl rfl rfl rfl ?_
        refine TQ.off rfl rfl rfl rfl rfl rfl ?_
        refine TQ.off rfl rfl rfl rfl rfl rfl ?_
        refine TQ.off rfl rfl rfl rfl rfl rfl ?_
        refine TQ.off rfl rfl rfl rfl rfl rfl ?_
        refine TQ.off rfl rfl rfl rfl rfl rfl ?_
        refine TQ.off rfl rfl rfl rfl rfl rfl ?_
        refine TQ.off rfl rfl rfl rfl rfl rfl ?_
        refine TQ.off rfl rfl rfl rfl rfl rfl ?_
        refine TQ.off rfl rfl rfl rfl rfl rfl ?_
        refine TQ.val rfl rfl rfl (gives_pick rfl rfl rfl) ?_
        exact TQ.end_
      refine TX.then_ ?_
      refine TC.condF rfl ?_
      refine TC.exit_ ?_
      refine TX.then_exit ?_
      refine TX.then_exit ?_
      refine TX.in_same ?_
      refine TX.in_normal ?_
      refine TX.then_ ?_
      refine TC.region ?_
      refine TL.val rfl rfl rfl (gives_move rfl rfl) ?_
      refine TL.val rfl rfl rfl (gives_bin rfl rfl rfl (fun w => bin_add_ (r := ((i + 1 : Nat) : Int)) (by simp only [IntKind.wrap_i64]; omega) w)) ?_
      refine TL.val rfl rfl rfl (gives_assign rfl rfl) ?_
      refine TL.end_ ?_
      exact TX.round (⟨(i + 1, zs), by dsimp only; omega, by dsimp only; omega, hQ, hS, hlz⟩) (by show b + 1 - (i + 1) < b + 1 - i; omega) ⟨rfl, rfl, rfl, rfl, trivial⟩ (fun w1 hw => hw)
    · refine TC.quiet_ (E' := ?_) (by kernel_rfl) (by kernel_rfl) (fun w hw => hw.drawn _) ?_ ?_
      rotate_left
      · refine TQ.val rfl rfl rfl (gives_move rfl rfl) ?_
        refine TQ.val rfl rfl rfl (gives_move rfl rfl) ?_
        refine TQ.val rfl rfl rfl (gives_bin rfl rfl rfl (fun w => bin_gtr_t (by omega) w)) ?_
        refine TQ.val rfl rfl rfl (gives_move rfl rfl) ?_
        refine TQ.on rfl rfl rfl ?_
        refine TQ.val rfl rfl rfl (gives_move rfl rfl) ?_
        refine TQ.on rfl rfl rfl ?_
        refine TQ.val rfl rfl rfl (gives_move rfl rfl) ?_
        refine TQ.on rfl rfl rfl ?_
        refine TQ.val rfl rfl rfl (gives_at (v := .pointer (some ⟨g, j, none⟩)) rfl rfl rfl (fun w => at_row Try.underlying31 us1sz35 g _ _ j (by omega) rfl w)) ?_
        refine TQ.on rfl rfl rfl ?_
        refine TQ.val rfl rfl rfl (pm_loadU (k := 0) (i := j) rfl rfl us1ag35 rfl (by omega)) ?_
        refine TQ.on rfl rfl rfl ?_
        refine TQ.val rfl rfl rfl (gives_move rfl rfl) ?_
        refine TQ.on rfl rfl rfl ?_
        refine TQ.val rfl rfl rfl (gives_move rfl rfl) ?_
        refine TQ.on rfl rfl rfl ?_
        refine TQ.val rfl rfl rfl (gives_bin rfl rfl rfl (fun w => bin_sub_ (r := ((j - 1 : Nat) : Int)) (by simp only [IntKind.wrap_i64]; omega) w)) ?_
        refine TQ.on rfl rfl rfl ?_
        refine TQ.val rfl rfl rfl (gives_at (v := .pointer (some ⟨g, j - 1, none⟩)) rfl rfl rfl (fun w => at_row Try.underlying31 us1sz35 g _ _ (j - 1) (by omega) rfl w)) ?_
        refine TQ.on rfl rfl rfl ?_
        refine TQ.val rfl rfl rfl (pm_loadU (k := 0) (i := j - 1) rfl rfl us1ag35 rfl (by omega)) ?_
        refine TQ.on rfl rfl rfl ?_
        refine TQ.call (v := .bool true) rfl rfl rfl rfl rfl Try.func68 us1nm68 us1bd68 (fun w1 hw => (less_t _ _ p2 w1).mono fun en w2 ⟨h1, h2⟩ => ⟨h1, hw.below h2⟩) ?_
        refine TQ.val rfl rfl rfl (gives_pick rfl rfl rfl) ?_
        exact TQ.end_
      refine TX.then_ ?_
      refine TC.condT rfl ?_
      refine TC.skip_ ?_
      refine TX.then_ ?_
      refine TC.seq_ ?_
      refine TC.block ?_
      refine TC.held (ls := #[false, false, false, false, false, false, false, false, false, false, false, false, false, false, false, false, false, false]) (fun _ => True) (by kernel_rfl) rfl rfl (fun w hw => hw.drawn _) ?_
      refine TH.take (listed' := #[true, false, false, false, false, false, false, false, false, false, false, false, false, false, false, false, false, false]) 0 rfl (by kernel_rfl) (by kernel_rfl) (by kernel_rfl) rfl rfl rfl rfl (gives_move rfl rfl) (fun _ _ => trivial) ?_
      refine TH.take (listed' := #[true, true, false, false, false, false, false, false, false, false, false, false, false, false, false, false, false, false]) 1 rfl (by kernel_rfl) (by kernel_rfl) (by kernel_rfl) rfl rfl rfl rfl (gives_move rfl rfl) (fun _ _ => trivial) ?_
      refine TH.take (listed' := #[true, true, true, false, false, false, false, false, false, false, false, false, false, false, false, false, false, false]) 2 rfl (by kernel_rfl) (by kernel_rfl) (by kernel_rfl) rfl rfl rfl rfl (gives_move rfl rfl) (fun _ _ => trivial) ?_
      refine TH.take (listed' := #[true, true, true, true, false, false, false, false, false, false, false, false, false, false, false, false, false, false]) 3 rfl (by kernel_rfl) (by kernel_rfl) (by kernel_rfl) rfl rfl rfl rfl (gives_move rfl rfl) (fun _ _ => trivial) ?_
      refine TH.take (listed' := #[true, true, true, true, true, false, false, false, false, false, false, false, false, false, false, false, false, false]) 4 rfl (by kernel_rfl) (by kernel_rfl) (by kernel_rfl) rfl rfl rfl rfl (gives_bin rfl rfl rfl (fun w => bin_sub_ (r := ((j - 1 : Nat) : Int)) (by simp only [IntKind.wrap_i64]; omega) w)) (fun _ _ => trivial) ?_
      refine TH.take (listed' := #[true, true, true, true, true, true, false, false, false, false, false, false, false, false, false, false, false, false]) 5 rfl (by kernel_rfl) (by kernel_rfl) (by kernel_rfl) rfl rfl rfl rfl (gives_move rfl rfl) (fun _ _ => trivial) ?_
      refine TH.take (listed' := #[true, true, true, true, true, true, true, false, false, false, false, false, false, false, false, false, false, false]) 6 rfl (by kernel_rfl) (by kernel_rfl) (by kernel_rfl) rfl rfl rfl rfl (gives_move rfl rfl) (fun _ _ => trivial) ?_
      refine TH.take (listed' := #[true, true, true, true, true, true, true, true, false, false, false, false, false, false, false, false, false, false]) 7 rfl (by kernel_rfl) (by kernel_rfl) (by kernel_rfl) rfl rfl rfl rfl (gives_bin rfl rfl rfl (fun w => bin_sub_ (r := ((j - 1 : Nat) : Int)) (by simp only [IntKind.wrap_i64]; omega) w)) (fun _ _ => trivial) ?_
      refine TH.take (listed' := #[true, true, true, true, true, true, true, true, true, false, false, false, false, false, false, false, false, false]) 8 rfl (by kernel_rfl) (by kernel_rfl) (by kernel_rfl) rfl rfl rfl rfl (gives_at (v := .pointer (some ⟨g, j - 1, none⟩)) rfl rfl rfl (fun w => at_row Try.underlying31 us1sz35 g _ _ (j - 1) (by omega) rfl w)) (fun _ _ => trivial) ?_
      refine TH.take (listed' := #[true, true, true, true, true, true, true, true, true, false, true, false, false, false, false, false, false, false]) 10 rfl (by kernel_rfl) (by kernel_rfl) (by kernel_rfl) rfl rfl rfl rfl (gives_move rfl rfl) (fun _ _ => trivial) ?_
      refine TH.take (listed' := #[true, true, true, true, true, true, true, true, true, false, true, true, false, false, false, false, false, false]) 11 rfl (by kernel_rfl) (by kernel_rfl) (by kernel_rfl) rfl rfl rfl rfl (gives_move rfl rfl) (fun _ _ => trivial) ?_
      refine TH.take (listed' := #[true, true, true, true, true, true, true, true, true, false, true, true, true, false, false, false, false, false]) 12 rfl (by kernel_rfl) (by kernel_rfl) (by kernel_rfl) rfl rfl rfl rfl (gives_at (v := .pointer (some ⟨g, j, none⟩)) rfl rfl rfl (fun w => at_row Try.underlying31 us1sz35 g _ _ j (by omega) rfl w)) (fun _ _ => trivial) ?_
      refine TH.two' (listed1 := #[true, true, true, true, true, true, true, true, true, true, true, true, true, false, false, false, false, false]) (listed2 := #[true, true, true, true, true, true, true, true, true, false, true, true, true, true, false, false, false, false]) 9 13 rfl rfl (by kernel_rfl) rfl rfl ?_ ?_
      · refine TL.val rfl rfl rfl (pm_loadU (k := 0) (i := j - 1) rfl rfl us1ag35 rfl (by omega)) ?_
        refine TL.end_ ?_
        refine TX.held (fun _ _ => trivial) ?_
        refine TH.only' (listed' := #[true, true, true, true, true, true, true, true, true, true, true, true, true, true, false, false, false, false]) 13 rfl (by kernel_rfl) rfl ?_
        refine TL.val rfl rfl rfl (pm_loadU (k := 0) (i := j) rfl rfl us1ag35 rfl (by omega)) ?_
        refine TL.end_ ?_
        refine TX.held (fun _ _ => trivial) ?_
        refine TH.take (listed' := #[true, true, true, true, true, true, true, true, true, true, true, true, true, true, true, false, false, false]) 14 rfl (by kernel_rfl) (by kernel_rfl) (by kernel_rfl) rfl rfl rfl rfl (gives_at (v := .pointer (some ⟨g, j, none⟩)) rfl rfl rfl (fun w => at_row Try.underlying31 us1sz35 g _ _ j (by omega) rfl w)) (fun _ _ => trivial) ?_
        refine TH.only' (listed' := #[true, true, true, true, true, true, true, true, true, true, true, true, true, true, true, true, false, false]) 15 rfl (by kernel_rfl) rfl ?_
        refine TL.uset (k := 0) (i := j) rfl rfl rfl rfl rfl rfl us1sz35 (by omega) ?_
        refine TL.end_ ?_
        refine TX.held (fun _ _ => trivial) ?_
        refine TH.take (listed' := #[true, true, true, true, true, true, true, true, true, true, true, true, true, true, true, true, true, false]) 16 rfl (by kernel_rfl) (by kernel_rfl) (by kernel_rfl) rfl rfl rfl rfl (gives_at (v := .pointer (some ⟨g, j - 1, none⟩)) rfl rfl rfl (fun w => at_row Try.underlying31 us1sz35 g _ _ (j - 1) (by omega) rfl w)) (fun _ _ => trivial) ?_
        refine TH.only' (listed' := #[true, true, true, true, true, true, true, true, true, true, true, true, true, true, true, true, true, true]) 17 rfl (by kernel_rfl) rfl ?_
        refine TL.uset (k := 0) (i := j - 1) rfl rfl rfl rfl rfl rfl us1sz35 (by rw [List.length_set]; omega) ?_
        refine TL.end_ ?_
        refine TX.held (fun _ _ => trivial) ?_
        refine TH.done (by kernel_rfl) ?_
        refine TX.in_normal ?_
        refine TX.then_ ?_
        refine TC.region ?_
        refine TL.val rfl rfl rfl (gives_move rfl rfl) ?_
        refine TL.val rfl rfl rfl (gives_bin rfl rfl rfl (fun w => bin_sub_ (r := ((j - 1 : Nat) : Int)) (by simp only [IntKind.wrap_i64]; omega) w)) ?_
        refine TL.val rfl rfl rfl (gives_assign rfl rfl) ?_
        refine TL.end_ ?_
        exact TX.round (⟨(j - 1, swp zs j (j - 1)), by dsimp only; omega, by dsimp only; omega, hQ.swap (by omega) (by omega) (by omega) (by omega) (by omega), hI.down p1 hj2 (by omega) p2, by rw [swp_len]; exact hlz⟩) (by show j - 1 < j; omega) ⟨rfl, rfl, rfl, rfl, rfl, trivial⟩ (fun w1 hw => hw)
      · refine TL.val rfl rfl rfl (pm_loadU (k := 0) (i := j) rfl rfl us1ag35 rfl (by omega)) ?_
        refine TL.end_ ?_
        refine TX.held (fun _ _ => trivial) ?_
        refine TH.only' (listed' := #[true, true, true, true, true, true, true, true, true, true, true, true, true, true, false, false, false, false]) 9 rfl (by kernel_rfl) rfl ?_
        refine TL.val rfl rfl rfl (pm_loadU (k := 0) (i := j - 1) rfl rfl us1ag35 rfl (by omega)) ?_
        refine TL.end_ ?_
        refine TX.held (fun _ _ => trivial) ?_
        refine TH.take (listed' := #[true, true, true, true, true, true, true, true, true, true, true, true, true, true, true, false, false, false]) 14 rfl (by kernel_rfl) (by kernel_rfl) (by kernel_rfl) rfl rfl rfl rfl (gives_at (v := .pointer (some ⟨g, j, none⟩)) rfl rfl rfl (fun w => at_row Try.underlying31 us1sz35 g _ _ j (by omega) rfl w)) (fun _ _ => trivial) ?_
        refine TH.only' (listed' := #[true, true, true, true, true, true, true, true, true, true, true, true, true, true, true, true, false, false]) 15 rfl (by kernel_rfl) rfl ?_
        refine TL.uset (k := 0) (i := j) rfl rfl rfl rfl rfl rfl us1sz35 (by omega) ?_
        refine TL.end_ ?_
        refine TX.held (fun _ _ => trivial) ?_
        refine TH.take (listed' := #[true, true, true, true, true, true, true, true, true, true, true, true, true, true, true, true, true, false]) 16 rfl (by kernel_rfl) (by kernel_rfl) (by kernel_rfl) rfl rfl rfl rfl (gives_at (v := .pointer (some ⟨g, j - 1, none⟩)) rfl rfl rfl (fun w => at_row Try.underlying31 us1sz35 g _ _ (j - 1) (by omega) rfl w)) (fun _ _ => trivial) ?_
        refine TH.only' (listed' := #[true, true, true, true, true, true, true, true, true, true, true, true, true, true, true, true, true, true]) 17 rfl (by kernel_rfl) rfl ?_
        refine TL.uset (k := 0) (i := j - 1) rfl rfl rfl rfl rfl rfl us1sz35 (by rw [List.length_set]; omega) ?_
        refine TL.end_ ?_
        refine TX.held (fun _ _ => trivial) ?_
        refine TH.done (by kernel_rfl) ?_
        refine TX.in_normal ?_
        refine TX.then_ ?_
        refine TC.region ?_
        refine TL.val rfl rfl rfl (gives_move rfl rfl) ?_
        refine TL.val rfl rfl rfl (gives_bin rfl rfl rfl (fun w => bin_sub_ (r := ((j - 1 : Nat) : Int)) (by simp only [IntKind.wrap_i64]; omega) w)) ?_
        refine TL.val rfl rfl rfl (gives_assign rfl rfl) ?_
        refine TL.end_ ?_
        exact TX.round (⟨(j - 1, swp zs j (j - 1)), by dsimp only; omega, by dsimp only; omega, hQ.swap (by omega) (by omega) (by omega) (by omega) (by omega), hI.down p1 hj2 (by omega) p2, by rw [swp_len]; exact hlz⟩) (by show j - 1 < j; omega) ⟨rfl, rfl, rfl, rfl, rfl, trivial⟩ (fun w1 hw => hw)
    · have hS : Srt a (i + 1) zs := hI.stop (fun hh => by omega)
      refine TC.quiet_ (E' := ?_) (by kernel_rfl) (by kernel_rfl) (fun w hw => hw.drawn _) ?_ ?_
      rotate_left
      · refine TQ.val rfl rfl rfl (gives_move rfl rfl) ?_
        refine TQ.val rfl rfl rfl (gives_move rfl rfl) ?_
        refine TQ.val rfl rfl rfl (gives_bin rfl rfl rfl (fun w => bin_gtr_t (by omega) w)) ?_
        refine TQ.val rfl rfl rfl (gives_move rfl rfl) ?_
        refine TQ.on rfl rfl rfl ?_
        refine TQ.val rfl rfl rfl (gives_move rfl rfl) ?_
        refine TQ.on rfl rfl rfl ?_
        refine TQ.val rfl rfl rfl (gives_move rfl rfl) ?_
        refine TQ.on rfl rfl rfl ?_
        refine TQ.val rfl rfl rfl (gives_at (v := .pointer (some ⟨g, j, none⟩)) rfl rfl rfl (fun w => at_row Try.underlying31 us1sz35 g _ _ j (by omega) rfl w)) ?_
        refine TQ.on rfl rfl rfl ?_
        refine TQ.val rfl rfl rfl (pm_loadU (k := 0) (i := j) rfl rfl us1ag35 rfl (by omega)) ?_
        refine TQ.on rfl rfl rfl ?_
        refine TQ.val rfl rfl rfl (gives_move rfl rfl) ?_
        refine TQ.on rfl rfl rfl ?_
        refine TQ.val rfl rfl rfl (gives_move rfl rfl) ?_
        refine TQ.on rfl rfl rfl ?_
        refine TQ.val rfl rfl rfl (gives_bin rfl rfl rfl (fun w => bin_sub_ (r := ((j - 1 : Nat) : Int)) (by simp only [IntKind.wrap_i64]; omega) w)) ?_
        refine TQ.on rfl rfl rfl ?_
        refine TQ.val rfl rfl rfl (gives_at (v := .pointer (some ⟨g, j - 1, none⟩)) rfl rfl rfl (fun w => at_row Try.underlying31 us1sz35 g _ _ (j - 1) (by omega) rfl w)) ?_
        refine TQ.on rfl rfl rfl ?_
        refine TQ.val rfl rfl rfl (pm_loadU (k := 0) (i := j - 1) rfl rfl us1ag35 rfl (by omega)) ?_
        refine TQ.on rfl rfl rfl ?_
        refine TQ.call (v := .bool false) rfl rfl rfl rfl rfl Try.func68 us1nm68 us1bd68 (fun w1 hw => (less_f _ _ p2 w1).mono fun en w2 ⟨h1, h2⟩ => ⟨h1, hw.below h2⟩) ?_
        refine TQ.val rfl rfl rfl (gives_pick rfl rfl rfl) ?_
        exact TQ.end_
      refine TX.then_ ?_
      refine TC.condF rfl ?_
      refine TC.exit_ ?_
      refine TX.then_exit ?_
      refine TX.then_exit ?_
      refine TX.in_same ?_
      refine TX.in_normal ?_
      refine TX.then_ ?_
      refine TC.region ?_
      refine TL.val rfl rfl rfl (gives_move rfl rfl) ?_
      refine TL.val rfl rfl rfl (gives_bin rfl rfl rfl (fun w => bin_add_ (r := ((i + 1 : Nat) : Int)) (by simp only [IntKind.wrap_i64]; omega) w)) ?_
      refine TL.val rfl rfl rfl (gives_assign rfl rfl) ?_
      refine TL.end_ ?_
      exact TX.round (⟨(i + 1, zs), by dsimp only; omega, by dsimp only; omega, hQ, hS, hlz⟩) (by show b + 1 - (i + 1) < b + 1 - i; omega) ⟨rfl, rfl, rfl, rfl, trivial⟩ (fun w1 hw => hw)
  · have q12 := of_decide_eq_false h12
    refine TL.end_ ?_
    refine TX.then_ ?_
    refine TC.condF rfl ?_
    refine TC.exit_ ?_
    refine TX.then_exit ?_
    refine TX.then_exit ?_
    refine TX.in_same ?_
    exact end_none Try.results62 (fun w1 hw => ⟨(), ys, rfl, ⟨hP, hS0.less (by omega)⟩, pm_rowAt hw (k := 0) rfl, hw.mapEnd (fun q hq => by simp [hq])⟩)
end Go.Proofs.Ytleckflmckbheaa

namespace Go.Proofs.Ytleckflmckbheaa
open Go.RowKit
set_option linter.unusedVariables false
set_option linter.unusedSimpArgs false
set_option maxRecDepth 20000
theorem us2sz35 (w : World) : (sizeOf 35).run Try.prog w = .ok 1 w := rfl
theorem us2ag35 (w : World) : (isAgg 35).run Try.prog w = .ok false w := rfl
theorem us2nm68 : (Try.f68.name == "runtime.NumGoroutine") = false := by decide
theorem us2bd68 : Try.f68.body.isNone = false := rfl
theorem us2nm73 : (Try.f73.name == "runtime.NumGoroutine") = false := by decide
theorem us2bd73 : Try.f73.body.isNone = false := rfl
set_option maxHeartbeats 1000000 in
theorem sift_any (g n c : Nat) (xs : List Int) (w : World) (h : Rw 35 w g n c xs) (hn : n ≤ 1000000) (lo hi f : Nat) (hlo : lo ≤ hi) (hf : f + hi ≤ n) (hh : Hp f (lo + 1) hi xs) :
    Calls Try.prog 73 #[.slice (some ⟨g, 0, none⟩) n c, .int .i64 ((lo : Nat) : Int), .int .i64 ((hi : Nat) : Int), .int .i64 ((f : Nat) : Int)] w (RC (α := Unit) (fun _ => .tuple #[]) (fun _ ys => Pin f (f + hi) xs ys ∧ Hp f lo hi ys) 35 g n c w) := by
  have hl := h.len
  refine begin_ (vs := [.slice (some ⟨g, 0, none⟩) n c, .int .i64 ((lo : Nat) : Int), .int .i64 ((hi : Nat) : Int), .int .i64 ((f : Nat) : Int)]) (I := Pm ⟨wbut w g, g⟩ (.row (.slice (some ⟨g, 0, none⟩) n c) 35 1 n (uv xs) :: oths g w)) Try.func73 rfl rfl rfl ?_ (Pm.rowStart h)
  refine TC.seq_ ?_
  refine TC.region ?_
  refine TL.val rfl rfl rfl (gives_move rfl rfl) ?_
  refine TL.val rfl rfl rfl (gives_assign rfl rfl) ?_
  refine TL.end_ ?_
  refine TX.then_ ?_
  refine TC.block ?_
  refine TC.loop_ (α := {y : Nat × List Int // Sft f lo hi y.1 y.2 ∧ y.1 ≤ hi ∧ Pin f (f + hi) xs y.2 ∧ y.2.length = n}) (fun y => [(0, .slice (some ⟨g, 0, none⟩) n c), (2, .int .i64 ((hi : Nat) : Int)), (3, .int .i64 ((f : Nat) : Int)), (8, .int .i64 ((y.1.1 : Nat) : Int))]) (fun y => Pm ⟨wbut w g, g⟩ ([.row (.slice (some ⟨g, 0, none⟩) n c) 35 1 n (uv y.1.2)] ++ oths g w)) (fun y => hi - y.1.1) (⟨(lo, xs), Sft.start hh, hlo, Pin.refl _ _ _, hl⟩) ⟨rfl, rfl, rfl, rfl, trivial⟩ (fun w1 hw => hw) ?_
  rintro ⟨⟨r, ys⟩, hS, hr, hP, hly⟩
  dsimp only at hS hr hP hly ⊢
  have hlr := hS.at_
  refine TC.block ?_
  refine TC.seq_ ?_
  refine TC.region ?_
  refine TL.val rfl rfl rfl (gives_move rfl rfl) ?_
  refine TL.val rfl rfl rfl (gives_bin rfl rfl rfl (fun w => bin_mul_ (r := ((2 * r : Nat) : Int)) (by simp only [IntKind.wrap_i64]; omega) w)) ?_
  refine TL.val rfl rfl rfl (gives_bin rfl rfl rfl (fun w => bin_add_ (r := ((2 * r + 1 : Nat) : Int)) (by simp only [IntKind.wrap_i64]; omega) w)) ?_
  refine TL.val rfl rfl rfl (gives_assign rfl rfl) ?_
  refine TL.end_ ?_
  refine TX.then_ ?_
  refine TC.seq_ ?_
  refine TC.seq_ ?_
  refine TC.region ?_
  refine TL.val rfl rfl rfl (gives_move rfl rfl) ?_
  refine TL.val rfl rfl rfl (gives_move rfl rfl) ?_
  refine TL.vsplit rfl rfl rfl (gives_bin rfl rfl rfl (fun w => bin_geq w)) (fun h16 => ?_) (fun h16 => ?_)
  · have q16 := of_decide_eq_true h16
    refine TL.end_ ?_
    refine TX.then_ ?_
    refine TC.condT rfl ?_
    refine TC.exit_ ?_
    refine TX.then_exit ?_
    refine TX.in_other rfl ?_
    refine TX.then_exit ?_
    refine TX.in_same ?_
    have hH : Hp f lo hi ys := hS.stop (fun d hd hdh => by omega)
    exact end_none Try.results73 (fun w1 hw => ⟨(), ys, rfl, ⟨hP, hH⟩, pm_rowAt hw (k := 0) rfl, hw.mapEnd (fun q hq => by simp [hq])⟩)
  · have q16 := of_decide_eq_false h16
    refine TL.end_ ?_
    refine TX.then_ ?_
    refine TC.condF rfl ?_
    refine TC.skip_ ?_
    refine TX.then_ ?_
    refine TC.seq_ ?_
    refine TC.seq_ ?_
    have hway : ¬ 2 * r + 1 + 1 < hi ∨ (2 * r + 1 + 1 < hi ∧ dx ys (f + (2 * r + 1)) < dx ys (f + (2 * r + 1) + 1)) ∨ (2 * r + 1 + 1 < hi ∧ ¬ dx ys (f + (2 * r + 1)) < dx ys (f + (2 * r + 1) + 1)) := by omega
    rcases hway with p1 | ⟨p1, p2⟩ | ⟨p1, p2⟩
    · refine TC.quiet_ (E' := ?_) (by kernel_rfl) (by kernel_rfl) (fun w hw => hw.drawn _) ?_ ?_
      rotate_left
      · refine TQ.val rfl rfl rfl (gives_move rfl rfl) ?_
        refine TQ.val rfl rfl rfl (gives_bin rfl rfl rfl (fun w => bin_add_ (r := ((2 * r + 1 + 1 : Nat) : Int)) (by simp only [IntKind.wrap_i64]; omega) w)) ?_
        refine TQ.val rfl rfl rfl (gives_move rfl rfl) ?_
        refine TQ.val rfl rfl rfl (gives_bin rfl rfl rfl (fun w => bin_lss_f (by omega) w)) ?_
        refine TQ.val rfl rfl rfl (gives_move rfl rfl) ?_
        refine TQ.off rfl rfl rfl rfl rfl rfl ?_
        refine TQ.off rfl rfl rfl rfl rfl rfl ?_
        refine TQ.off rfl rfl rfl rfl rfl rfl ?_
        refine TQ.off rfl rfl rfl rfl rfl rfl ?_
        refine TQ.off rfl rfl rfl rfl rfl rfl ?_
        refine TQ.off rfl rfl rfl rfl rfl rfl ?_
        refine TQ.off rfl rfl rfl rfl rfl rfl ?_
        refine TQ.off rfl rfl rfl rfl rfl rfl ?_
        refine TQ.off rfl rfl rfl rfl rfl rfl ?_
        refine TQ.off rfl rfl rfl rfl rfl rfl ?_
        refine TQ.off rfl rfl rfl rfl rfl rfl ?_
        refine TQ.off rfl rfl rfl rfl rfl rfl ?_
        refine TQ.off rfl rfl rfl rfl rfl rfl ?_
        refine TQ.off rfl rfl rfl rfl rfl rfl ?_
        refine TQ.val rfl rfl rfl (gives_pick rfl rfl rfl) ?_
        exact TQ.end_
      refine TX.then_ ?_
      refine TC.condF rfl ?_
      refine TC.skip_ ?_
      refine TX.then_ ?_
      refine TC.seq_ ?_
      refine TC.seq_ ?_
      rcases Classical.em (dx ys (f + r) < dx ys (f + (2 * r + 1))) with p4 | p4
      · have hmx : ∀ d, (d = 2 * r + 1 ∨ d = 2 * r + 2) → d < hi → dx ys (f + d) ≤ dx ys (f + (2 * r + 1)) := fun d hd hdh => by rcases hd with rfl | rfl <;> omega
        refine TC.quiet_ (E' := ?_) (by kernel_rfl) (by kernel_rfl) (fun w hw => hw.drawn _) ?_ ?_
        rotate_left
        · refine TQ.val rfl rfl rfl (gives_move rfl rfl) ?_
          refine TQ.val rfl rfl rfl (gives_move rfl rfl) ?_
          refine TQ.val rfl rfl rfl (gives_move rfl rfl) ?_
          refine TQ.val rfl rfl rfl (gives_bin rfl rfl rfl (fun w => bin_add_ (r := ((f + r : Nat) : Int)) (by simp only [IntKind.wrap_i64]; omega) w)) ?_
          refine TQ.val rfl rfl rfl (gives_at (v := .pointer (some ⟨g, f + r, none⟩)) rfl rfl rfl (fun w => at_row Try.underlying31 us2sz35 g _ _ (f + r) (by omega) rfl w)) ?_
          refine TQ.val rfl rfl rfl (pm_loadU (k := 0) (i := f + r) rfl rfl us2ag35 rfl (by omega)) ?_
          refine TQ.val rfl rfl rfl (gives_move rfl rfl) ?_
          refine TQ.val rfl rfl rfl (gives_move rfl rfl) ?_
          refine TQ.val rfl rfl rfl (gives_move rfl rfl) ?_
          refine TQ.val rfl rfl rfl (gives_bin rfl rfl rfl (fun w => bin_add_ (r := ((f + (2 * r + 1) : Nat) : Int)) (by simp only [IntKind.wrap_i64]; omega) w)) ?_
          refine TQ.val rfl rfl rfl (gives_at (v := .pointer (some ⟨g, f + (2 * r + 1), none⟩)) rfl rfl rfl (fun w => at_row Try.underlying31 us2sz35 g _ _ (f + (2 * r + 1)) (by omega) rfl w)) ?_
          refine TQ.val rfl rfl rfl (pm_loadU (k := 0) (i := f + (2 * r + 1)) rfl rfl us2ag35 rfl (by omega)) ?_
          refine TQ.call (v := .bool true) rfl rfl rfl rfl rfl Try.func68 us2nm68 us2bd68 (fun w1 hw => (less_t _ _ p4 w1).mono fun en w2 ⟨h1, h2⟩ => ⟨h1, hw.below h2⟩) ?_
          refine TQ.val rfl rfl rfl (gives_boolnot rfl rfl) ?_
          exact TQ.end_
        refine TX.then_ ?_
        refine TC.condF rfl ?_
        refine TC.skip_ ?_
        refine TX.then_ ?_
        refine TC.seq_ ?_
        refine TC.held (ls := #[false, false, false, false, false, false, false, false, false, false, false, false, false, false, false, false, false, false, false, false, false, false, false, false]) (fun _ => True) (by kernel_rfl) rfl rfl (fun w hw => hw.drawn _) ?_
        refine TH.take (listed' := #[true, false, false, false, false, false, false, false, false, false, false, false, false, false, false, false, false, false, false, false, false, false, false, false]) 0 rfl (by kernel_rfl) (by kernel_rfl) (by kernel_rfl) rfl rfl rfl rfl (gives_move rfl rfl) (fun _ _ => trivial) ?_
        refine TH.take (listed' := #[true, true, false, false, false, false, false, false, false, false, false, false, false, false, false, false, false, false, false, false, false, false, false, false]) 1 rfl (by kernel_rfl) (by kernel_rfl) (by kernel_rfl) rfl rfl rfl rfl (gives_move rfl rfl) (fun _ _ => trivial) ?_
        refine TH.take (listed' := #[true, true, true, false, false, false, false, false, false, false, false, false, false, false, false, false, false, false, false, false, false, false, false, false]) 2 rfl (by kernel_rfl) (by kernel_rfl) (by kernel_rfl) rfl rfl rfl rfl (gives_move rfl rfl) (fun _ _ => trivial) ?_
        refine TH.take (listed' := #[true, true, true, true, false, false, false, false, false, false, false, false, false, false, false, false, false, false, false, false, false, false, false, false]) 3 rfl (by kernel_rfl) (by kernel_rfl) (by kernel_rfl) rfl rfl rfl rfl (gives_bin rfl rfl rfl (fun w => bin_add_ (r := ((f + r : Nat) : Int)) (by simp only [IntKind.wrap_i64]; omega) w)) (fun _ _ => trivial) ?_
        refine TH.take (listed' := #[true, true, true, true, true, false, false, false, false, false, false, false, false, false, false, false, false, false, false, false, false, false, false, false]) 4 rfl (by kernel_rfl) (by kernel_rfl) (by kernel_rfl) rfl rfl rfl rfl (gives_move rfl rfl) (fun _ _ => trivial) ?_
        refine TH.take (listed' := #[true, true, true, true, true, true, false, false, false, false, false, false, false, false, false, false, false, false, false, false, false, false, false, false]) 5 rfl (by kernel_rfl) (by kernel_rfl) (by kernel_rfl) rfl rfl rfl rfl (gives_move rfl rfl) (fun _ _ => trivial) ?_
        refine TH.take (listed' := #[true, true, true, true, true, true, true, false, false, false, false, false, false, false, false, false, false, false, false, false, false, false, false, false]) 6 rfl (by kernel_rfl) (by kernel_rfl) (by kernel_rfl) rfl rfl rfl rfl (gives_move rfl rfl) (fun _ _ => trivial) ?_
        refine TH.take (listed' := #[true, true, true, true, true, true, true, true, false, false, false, false, false, false, false, false, false, false, false, false, false, false, false, false]) 7 rfl (by kernel_rfl) (by kernel_rfl) (by kernel_rfl) rfl rfl rfl rfl (gives_bin rfl rfl rfl (fun w => bin_add_ (r := ((f + (2 * r + 1) : Nat) : Int)) (by simp only [IntKind.wrap_i64]; omega) w)) (fun _ _ => trivial) ?_
        refine TH.take (listed' := #[true, true, true, true, true, true, true, true, true, false, false, false, false, false, false, false, false, false, false, false, false, false, false, false]) 8 rfl (by kernel_rfl) (by kernel_rfl) (by kernel_rfl) rfl rfl rfl rfl (gives_move rfl rfl) (fun _ _ => trivial) ?_
        refine TH.take (listed' := #[true, true, true, true, true, true, true, true, true, true, false, false, false, false, false, false, false, false, false, false, false, false, false, false]) 9 rfl (by kernel_rfl) (by kernel_rfl) (by kernel_rfl) rfl rfl rfl rfl (gives_move rfl rfl) (fun _ _ => trivial) ?_
        refine TH.take (listed' := #[true, true, true, true, true, true, true, true, true, true, true, false, false, false, false, false, false, false, false, false, false, false, false, false]) 10 rfl (by kernel_rfl) (by kernel_rfl) (by kernel_rfl) rfl rfl rfl rfl (gives_move rfl rfl) (fun _ _ => trivial) ?_
        refine TH.take (listed' := #[true, true, true, true, true, true, true, true, true, true, true, true, false, false, false, false, false, false, false, false, false, false, false, false]) 11 rfl (by kernel_rfl) (by kernel_rfl) (by kernel_rfl) rfl rfl rfl rfl (gives_bin rfl rfl rfl (fun w => bin_add_ (r := ((f + (2 * r + 1) : Nat) : Int)) (by simp only [IntKind.wrap_i64]; omega) w)) (fun _ _ => trivial) ?_
        refine TH.take (listed' := #[true, true, true, true, true, true, true, true, true, true, true, true, true, false, false, false, false, false, false, false, false, false, false, false]) 12 rfl (by kernel_rfl) (by kernel_rfl) (by kernel_rfl) rfl rfl rfl rfl (gives_at (v := .pointer (some ⟨g, f + (2 * r + 1), none⟩)) rfl rfl rfl (fun w => at_row Try.underlying31 us2sz35 g _ _ (f + (2 * r + 1)) (by omega) rfl w)) (fun _ _ => trivial) ?_
        refine TH.take (listed' := #[true, true, true, true, true, true, true, true, true, true, true, true, true, false, true, false, false, false, false, false, false, false, false, false]) 14 rfl (by kernel_rfl) (by kernel_rfl) (by kernel_rfl) rfl rfl rfl rfl (gives_move rfl rfl) (fun _ _ => trivial) ?_
        refine TH.take (listed' := #[true, true, true, true, true, true, true, true, true, true, true, true, true, false, true, true, false, false, false, false, false, false, false, false]) 15 rfl (by kernel_rfl) (by kernel_rfl) (by kernel_rfl) rfl rfl rfl rfl (gives_move rfl rfl) (fun _ _ => trivial) ?_
        refine TH.take (listed' := #[true, true, true, true, true, true, true, true, true, true, true, true, true, false, true, true, true, false, false, false, false, false, false, false]) 16 rfl (by kernel_rfl) (by kernel_rfl) (by kernel_rfl) rfl rfl rfl rfl (gives_move rfl rfl) (fun _ _ => trivial) ?_
        refine TH.take (listed' := #[true, true, true, true, true, true, true, true, true, true, true, true, true, false, true, true, true, true, false, false, false, false, false, false]) 17 rfl (by kernel_rfl) (by kernel_rfl) (by kernel_rfl) rfl rfl rfl rfl (gives_bin rfl rfl rfl (fun w => bin_add_ (r := ((f + r : Nat) : Int)) (by simp only [IntKind.wrap_i64]; omega) w)) (fun _ _ => trivial) ?_
        refine TH.take (listed' := #[true, true, true, true, true, true, true, true, true, true, true, true, true, false, true, true, true, true, true, false, false, false, false, false]) 18 rfl (by kernel_rfl) (by kernel_rfl) (by kernel_rfl) rfl rfl rfl rfl (gives_at (v := .pointer (some ⟨g, f + r, none⟩)) rfl rfl rfl (fun w => at_row Try.underlying31 us2sz35 g _ _ (f + r) (by omega) rfl w)) (fun _ _ => trivial) ?_
        refine TH.two' (listed1 := #[true, true, true, true, true, true, true, true, true, true, true, true, true, true, true, true, true, true, true, false, false, false, false, false]) (listed2 := #[true, true, true, true, true, true, true, true, true, true, true, true, true, false, true, true, true, true, true, true, false, false, false, false]) 13 19 rfl rfl (by kernel_rfl) rfl rfl ?_ ?_
        · refine TL.val rfl rfl rfl (pm_loadU (k := 0) (i := f + (2 * r + 1)) rfl rfl us2ag35 rfl (by omega)) ?_
          refine TL.end_ ?_
          refine TX.held (fun _ _ => trivial) ?_
          refine TH.only' (listed' := #[true, true, true, true, true, true, true, true, true, true, true, true, true, true, true, true, true, true, true, true, false, false, false, false]) 19 rfl (by kernel_rfl) rfl ?_
          refine TL.val rfl rfl rfl (pm_loadU (k := 0) (i := f + r) rfl rfl us2ag35 rfl (by omega)) ?_
          refine TL.end_ ?_
          refine TX.held (fun _ _ => trivial) ?_
          refine TH.take (listed' := #[true, true, true, true, true, true, true, true, true, true, true, true, true, true, true, true, true, true, true, true, true, false, false, false]) 20 rfl (by kernel_rfl) (by kernel_rfl) (by kernel_rfl) rfl rfl rfl rfl (gives_at (v := .pointer (some ⟨g, f + r, none⟩)) rfl rfl rfl (fun w => at_row Try.underlying31 us2sz35 g _ _ (f + r) (by omega) rfl w)) (fun _ _ => trivial) ?_
          refine TH.only' (listed' := #[true, true, true, true, true, true, true, true, true, true, true, true, true, true, true, true, true, true, true, true, true, true, false, false]) 21 rfl (by kernel_rfl) rfl ?_
          refine TL.uset (k := 0) (i := f + r) rfl rfl rfl rfl rfl rfl us2sz35 (by omega) ?_
          refine TL.end_ ?_
          refine TX.held (fun _ _ => trivial) ?_
          refine TH.take (listed' := #[true, true, true, true, true, true, true, true, true, true, true, true, true, true, true, true, true, true, true, true, true, true, true, false]) 22 rfl (by kernel_rfl) (by kernel_rfl) (by kernel_rfl) rfl rfl rfl rfl (gives_at (v := .pointer (some ⟨g, f + (2 * r + 1), none⟩)) rfl rfl rfl (fun w => at_row Try.underlying31 us2sz35 g _ _ (f + (2 * r + 1)) (by omega) rfl w)) (fun _ _ => trivial) ?_
          refine TH.only' (listed' := #[true, true, true, true, true, true, true, true, true, true, true, true, true, true, true, true, true, true, true, true, true, true, true, true]) 23 rfl (by kernel_rfl) rfl ?_
          refine TL.uset (k := 0) (i := f + (2 * r + 1)) rfl rfl rfl rfl rfl rfl us2sz35 (by rw [List.length_set]; omega) ?_
          refine TL.end_ ?_
          refine TX.held (fun _ _ => trivial) ?_
          refine TH.done (by kernel_rfl) ?_
          refine TX.then_ ?_
          refine TC.region ?_
          refine TL.val rfl rfl rfl (gives_move rfl rfl) ?_
          refine TL.val rfl rfl rfl (gives_assign rfl rfl) ?_
          refine TL.end_ ?_
          refine TX.in_normal ?_
          exact TX.round (⟨(2 * r + 1, swp ys (f + r) (f + (2 * r + 1))), hS.down (by omega) (by omega) (by omega) p4 hmx, by dsimp only; omega, hP.swap (by omega) (by omega) (by omega) (by omega) (by omega), by rw [swp_len]; exact hly⟩) (by dsimp only; omega) ⟨rfl, rfl, rfl, rfl, trivial⟩ (fun w1 hw => hw)
        · refine TL.val rfl rfl rfl (pm_loadU (k := 0) (i := f + r) rfl rfl us2ag35 rfl (by omega)) ?_
          refine TL.end_ ?_
          refine TX.held (fun _ _ => trivial) ?_
          refine TH.only' (listed' := #[true, true, true, true, true, true, true, true, true, true, true, true, true, true, true, true, true, true, true, true, false, false, false, false]) 13 rfl (by kernel_rfl) rfl ?_
          refine TL.val rfl rfl rfl (pm_loadU (k := 0) (i := f + (2 * r + 1)) rfl rfl us2ag35 rfl (by omega)) ?_
          refine TL.end_ ?_
          refine TX.held (fun _ _ => trivial) ?_
          refine TH.take (listed' := #[true, true, true, true, true, true, true, true, true, true, true, true, true, true, true, true, true, true, true, true, true, false, false, false]) 20 rfl (by kernel_rfl) (by kernel_rfl) (by kernel_rfl) rfl rfl rfl rfl (gives_at (v := .pointer (some ⟨g, f + r, none⟩)) rfl rfl rfl (fun w => at_row Try.underlying31 us2sz35 g _ _ (f + r) (by omega) rfl w)) (fun _ _ => trivial) ?_
          refine TH.only' (listed' := #[true, true, true, true, true, true, true, true, true, true, true, true, true, true, true, true, true, true, true, true, true, true, false, false]) 21 rfl (by kernel_rfl) rfl ?_
          refine TL.uset (k := 0) (i := f + r) rfl rfl rfl rfl rfl rfl us2sz35 (by omega) ?_
          refine TL.end_ ?_
          refine TX.held (fun _ _ => trivial) ?_
          refine TH.take (listed' := #[true, true, true, true, true, true, true, true, true, true, true, true, true, true, true, true, true, true, true, true, true, true, true, false]) 22 rfl (by kernel_rfl) (by kernel_rfl) (by kernel_rfl) rfl rfl rfl rfl (gives_at (v := .pointer (some ⟨g, f + (2 * r + 1), none⟩)) rfl rfl rfl (fun w => at_row Try.underlying31 us2sz35 g _ _ (f + (2 * r + 1)) (by omega) rfl w)) (fun _ _ => trivial) ?_
          refine TH.only' (listed' := #[true, true, true, true, true, true, true, true, true, true, true, true, true, true, true, true, true, true, true, true, true, true, true, true]) 23 rfl (by kernel_rfl) rfl ?_
          refine TL.uset (k := 0) (i := f + (2 * r + 1)) rfl rfl rfl rfl rfl rfl us2sz35 (by rw [List.length_set]; omega) ?_
          refine TL.end_ ?_
          refine TX.held (fun _ _ => trivial) ?_
          refine TH.done (by kernel_rfl) ?_
          refine TX.then_ ?_
          refine TC.region ?_
          refine TL.val rfl rfl rfl (gives_move rfl rfl) ?_
          refine TL.val rfl rfl rfl (gives_assign rfl rfl) ?_
          refine TL.end_ ?_
          refine TX.in_normal ?_
          exact TX.round (⟨(2 * r + 1, swp ys (f + r) (f + (2 * r + 1))), hS.down (by omega) (by omega) (by omega) p4 hmx, by dsimp only; omega, hP.swap (by omega) (by omega) (by omega) (by omega) (by omega), by rw [swp_len]; exact hly⟩) (by dsimp only; omega) ⟨rfl, rfl, rfl, rfl, trivial⟩ (fun w1 hw => hw)
      · have hH : Hp f lo hi ys := hS.stop (fun d hd hdh => by rcases hd with rfl | rfl <;> omega)
        refine TC.quiet_ (E' := ?_) (by kernel_rfl) (by kernel_rfl) (fun w hw => hw.drawn _) ?_ ?_
        rotate_left
        · refine TQ.val rfl rfl rfl (gives_move rfl rfl) ?_
          refine TQ.val rfl rfl rfl (gives_move rfl rfl) ?_
          refine TQ.val rfl rfl rfl (gives_move rfl rfl) ?_
          refine TQ.val rfl rfl rfl (gives_bin rfl rfl rfl (fun w => bin_add_ (r := ((f + r : Nat) : Int)) (by simp only [IntKind.wrap_i64]; omega) w)) ?_
          refine TQ.val rfl rfl rfl (gives_at (v := .pointer (some ⟨g, f + r, none⟩)) rfl rfl rfl (fun w => at_row Try.underlying31 us2sz35 g _ _ (f + r) (by omega) rfl w)) ?_
          refine TQ.val rfl rfl rfl (pm_loadU (k := 0) (i := f + r) rfl rfl us2ag35 rfl (by omega)) ?_
          refine TQ.val rfl rfl rfl (gives_move rfl rfl) ?_
          refine TQ.val rfl rfl rfl (gives_move rfl rfl) ?_
          refine TQ.val rfl rfl rfl (gives_move rfl rfl) ?_
          refine TQ.val rfl rfl rfl (gives_bin rfl rfl rfl (fun w => bin_add_ (r := ((f + (2 * r + 1) : Nat) : Int)) (by simp only [IntKind.wrap_i64]; omega) w)) ?_
          refine TQ.val rfl rfl rfl (gives_at (v := .pointer (some ⟨g, f + (2 * r + 1), none⟩)) rfl rfl rfl (fun w => at_row Try.underlying31 us2sz35 g _ _ (f + (2 * r + 1)) (by omega) rfl w)) ?_
          refine TQ.val rfl rfl rfl (pm_loadU (k := 0) (i := f + (2 * r + 1)) rfl rfl us2ag35 rfl (by omega)) ?_
          refine TQ.call (v := .bool false) rfl rfl rfl rfl rfl Try.func68 us2nm68 us2bd68 (fun w1 hw => (less_f _ _ p4 w1).mono fun en w2 ⟨h1, h2⟩ => ⟨h1, hw.below h2⟩) ?_
          refine TQ.val rfl rfl rfl (gives_boolnot rfl rfl) ?_
          exact TQ.end_
        refine TX.then_ ?_
        refine TC.condT rfl ?_
        refine TC.ret_ ?_
        refine TX.then_ret ?_
        refine TX.in_ret ?_
        refine TX.then_ret ?_
        refine TX.in_ret ?_
        exact ret_none Try.results73 (fun w1 hw => ⟨(), ys, rfl, ⟨hP, hH⟩, pm_rowAt hw (k := 0) rfl, hw.mapEnd (fun q hq => by simp [hq])⟩)
    · have p3 : dx ys (f + (2 * r + 1)) < dx ys (f + (2 * r + 1 + 1)) := p2
      have p5 : dx ys (f + (2 * r + 2)) = dx ys (f + (2 * r + 1 + 1)) := rfl
      refine TC.quiet_ (E' := ?_) (by kernel_rfl) (by kernel_rfl) (fun w hw => hw.drawn _) ?_ ?_
      rotate_left
      · refine TQ.val rfl rfl rfl (gives_move rfl rfl) ?_
        refine TQ.val rfl rfl rfl (gives_bin rfl rfl rfl (fun w => bin_add_ (r := ((2 * r + 1 + 1 : Nat) : Int)) (by simp only [IntKind.wrap_i64]; omega) w)) ?_
        refine TQ.val rfl rfl rfl (gives_move rfl rfl) ?_
        refine TQ.val rfl rfl rfl (gives_bin rfl rfl rfl (fun w => bin_lss_t (by omega) w)) ?_
        refine TQ.val rfl rfl rfl (gives_move rfl rfl) ?_
        refine TQ.on rfl rfl rfl ?_
        refine TQ.val rfl rfl rfl (gives_move rfl rfl) ?_
        refine TQ.on rfl rfl rfl ?_
        refine TQ.val rfl rfl rfl (gives_move rfl rfl) ?_
        refine TQ.on rfl rfl rfl ?_
        refine TQ.val rfl rfl rfl (gives_move rfl rfl) ?_
        refine TQ.on rfl rfl rfl ?_
        refine TQ.val rfl rfl rfl (gives_bin rfl rfl rfl (fun w => bin_add_ (r := ((f + (2 * r + 1) : Nat) : Int)) (by simp only [IntKind.wrap_i64]; omega) w)) ?_
        refine TQ.on rfl rfl rfl ?_
        refine TQ.val rfl rfl rfl (gives_at (v := .pointer (some ⟨g, f + (2 * r + 1), none⟩)) rfl rfl rfl (fun w => at_row Try.underlying31 us2sz35 g _ _ (f + (2 * r + 1)) (by omega) rfl w)) ?_
        refine TQ.on rfl rfl rfl ?_
        refine TQ.val rfl rfl rfl (pm_loadU (k := 0) (i := f + (2 * r + 1)) rfl rfl us2ag35 rfl (by omega)) ?_
        refine TQ.on rfl rfl rfl ?_
        refine TQ.val rfl rfl rfl (gives_move rfl rfl) ?_
        refine TQ.on rfl rfl rfl ?_
        refine TQ.val rfl rfl rfl (gives_move rfl rfl) ?_
        refine TQ.on rfl rfl rfl ?_
        refine TQ.val rfl rfl rfl (gives_move rfl rfl) ?_
        refine TQ.on rfl rfl rfl ?_
        refine TQ.val rfl rfl rfl (gives_bin rfl rfl rfl (fun w => bin_add_ (r := ((f + (2 * r + 1) : Nat) : Int)) (by simp only [IntKind.wrap_i64]; omega) w)) ?_
        refine TQ.on rfl rfl rfl ?_
        refine TQ.val rfl rfl rfl (gives_bin rfl rfl rfl (fun w => bin_add_ (r := ((f + (2 * r + 1) + 1 : Nat) : Int)) (by simp only [IntKind.wrap_i64]; omega) w)) ?_
        refine TQ.on rfl rfl rfl ?_
        refine TQ.val rfl rfl rfl (gives_at (v := .pointer (some ⟨g, f + (2 * r + 1) + 1, none⟩)) rfl rfl rfl (fun w => at_row Try.underlying31 us2sz35 g _ _ (f + (2 * r + 1) + 1) (by omega) rfl w)) ?_
        refine TQ.on rfl rfl rfl ?_
        refine TQ.val rfl rfl rfl (pm_loadU (k := 0) (i := f + (2 * r + 1) + 1) rfl rfl us2ag35 rfl (by omega)) ?_
        refine TQ.on rfl rfl rfl ?_
        refine TQ.call (v := .bool true) rfl rfl rfl rfl rfl Try.func68 us2nm68 us2bd68 (fun w1 hw => (less_t _ _ p2 w1).mono fun en w2 ⟨h1, h2⟩ => ⟨h1, hw.below h2⟩) ?_
        refine TQ.val rfl rfl rfl (gives_pick rfl rfl rfl) ?_
        exact TQ.end_
      refine TX.then_ ?_
      refine TC.condT rfl ?_
      refine TC.region ?_
      refine TL.val rfl rfl rfl (gives_move rfl rfl) ?_
      refine TL.val rfl rfl rfl (gives_bin rfl rfl rfl (fun w => bin_add_ (r := ((2 * r + 1 + 1 : Nat) : Int)) (by simp only [IntKind.wrap_i64]; omega) w)) ?_
      refine TL.val rfl rfl rfl (gives_assign rfl rfl) ?_
      refine TL.end_ ?_
      refine TX.then_ ?_
      refine TC.seq_ ?_
      refine TC.seq_ ?_
      rcases Classical.em (dx ys (f + r) < dx ys (f + (2 * r + 1 + 1))) with p4 | p4
      · have hmx : ∀ d, (d = 2 * r + 1 ∨ d = 2 * r + 2) → d < hi → dx ys (f + d) ≤ dx ys (f + (2 * r + 1 + 1)) := fun d hd hdh => by rcases hd with rfl | rfl <;> omega
        refine TC.quiet_ (E' := ?_) (by kernel_rfl) (by kernel_rfl) (fun w hw => hw.drawn _) ?_ ?_
        rotate_left
        · refine TQ.val rfl rfl rfl (gives_move rfl rfl) ?_
          refine TQ.val rfl rfl rfl (gives_move rfl rfl) ?_
          refine TQ.val rfl rfl rfl (gives_move rfl rfl) ?_
          refine TQ.val rfl rfl rfl (gives_bin rfl rfl rfl (fun w => bin_add_ (r := ((f + r : Nat) : Int)) (by simp only [IntKind.wrap_i64]; omega) w)) ?_
          refine TQ.val rfl rfl rfl (gives_at (v := .pointer (some ⟨g, f + r, none⟩)) rfl rfl rfl (fun w => at_row Try.underlying31 us2sz35 g _ _ (f + r) (by omega) rfl w)) ?_
          refine TQ.val rfl rfl rfl (pm_loadU (k := 0) (i := f + r) rfl rfl us2ag35 rfl (by omega)) ?_
          refine TQ.val rfl rfl rfl (gives_move rfl rfl) ?_
          refine TQ.val rfl rfl rfl (gives_move rfl rfl) ?_
          refine TQ.val rfl rfl rfl (gives_move rfl rfl) ?_
          refine TQ.val rfl rfl rfl (gives_bin rfl rfl rfl (fun w => bin_add_ (r := ((f + (2 * r + 1 + 1) : Nat) : Int)) (by simp only [IntKind.wrap_i64]; omega) w)) ?_
          refine TQ.val rfl rfl rfl (gives_at (v := .pointer (some ⟨g, f + (2 * r + 1 + 1), none⟩)) rfl rfl rfl (fun w => at_row Try.underlying31 us2sz35 g _ _ (f + (2 * r + 1 + 1)) (by omega) rfl w)) ?_
          refine TQ.val rfl rfl rfl (pm_loadU (k := 0) (i := f + (2 * r + 1 + 1)) rfl rfl us2ag35 rfl (by omega)) ?_
          refine TQ.call (v := .bool true) rfl rfl rfl rfl rfl Try.func68 us2nm68 us2bd68 (fun w1 hw => (less_t _ _ p4 w1).mono fun en w2 ⟨h1, h2⟩ => ⟨h1, hw.below h2⟩) ?_
          refine TQ.val rfl rfl rfl (gives_boolnot rfl rfl) ?_
          exact TQ.end_
        refine TX.then_ ?_
        refine TC.condF rfl ?_
        refine TC.skip_ ?_
        refine TX.then_ ?_
        refine TC.seq_ ?_
        refine TC.held (ls := #[false, false, false, false, false, false, false, false, false, false, false, false, false, false, false, false, false, false, false, false, false, false, false, false]) (fun _ => True) (by kernel_rfl) rfl rfl (fun w hw => hw.drawn _) ?_
        refine TH.take (listed' := #[true, false, false, false, false, false, false, false, false, false, false, false, false, false, false, false, false, false, false, false, false, false, false, false]) 0 rfl (by kernel_rfl) (by kernel_rfl) (by kernel_rfl) rfl rfl rfl rfl (gives_move rfl rfl) (fun _ _ => trivial) ?_
        refine TH.take (listed' := #[true, true, false, false, false, false, false, false, false, false, false, false, false, false, false, false, false, false, false, false, false, false, false, false]) 1 rfl (by kernel_rfl) (by kernel_rfl) (by kernel_rfl) rfl rfl rfl rfl (gives_move rfl rfl) (fun _ _ => trivial) ?_
        refine TH.take (listed' := #[true, true, true, false, false, false, false, false, false, false, false, false, false, false, false, false, false, false, false, false, false, false, false, false]) 2 rfl (by kernel_rfl) (by kernel_rfl) (by kernel_rfl) rfl rfl rfl rfl (gives_move rfl rfl) (fun _ _ => trivial) ?_
        refine TH.take (listed' := #[true, true, true, true, false, false, false, false, false, false, false, false, false, false, false, false, false, false, false, false, false, false, false, false]) 3 rfl (by kernel_rfl) (by kernel_rfl) (by kernel_rfl) rfl rfl rfl rfl (gives_bin rfl rfl rfl (fun w => bin_add_ (r := ((f + r : Nat) : Int)) (by simp only [IntKind.wrap_i64]; omega) w)) (fun _ _ => trivial) ?_
        refine TH.take (listed' := #[true, true, true, true, true, false, false, false, false, false, false, false, false, false, false, false, false, false, false, false, false, false, false, false]) 4 rfl (by kernel_rfl) (by kernel_rfl) (by kernel_rfl) rfl rfl rfl rfl (gives_move rfl rfl) (fun _ _ => trivial) ?_
        refine TH.take (listed' := #[true, true, true, true, true, true, false, false, false, false, false, false, false, false, false, false, false, false, false, false, false, false, false, false]) 5 rfl (by kernel_rfl) (by kernel_rfl) (by kernel_rfl) rfl rfl rfl rfl (gives_move rfl rfl) (fun _ _ => trivial) ?_
        refine TH.take (listed' := #[true, true, true, true, true, true, true, false, false, false, false, false, false, false, false, false, false, false, false, false, false, false, false, false]) 6 rfl (by kernel_rfl) (by kernel_rfl) (by kernel_rfl) rfl rfl rfl rfl (gives_move rfl rfl) (fun _ _ => trivial) ?_
        refine TH.take (listed' := #[true, true, true, true, true, true, true, true, false, false, false, false, false, false, false, false, false, false, false, false, false, false, false, false]) 7 rfl (by kernel_rfl) (by kernel_rfl) (by kernel_rfl) rfl rfl rfl rfl (gives_bin rfl rfl rfl (fun w => bin_add_ (r := ((f + (2 * r + 1 + 1) : Nat) : Int)) (by simp only [IntKind.wrap_i64]; omega) w)) (fun _ _ => trivial) ?_
        refine TH.take (listed' := #[true, true, true, true, true, true, true, true, true, false, false, false, false, false, false, false, false, false, false, false, false, false, false, false]) 8 rfl (by kernel_rfl) (by kernel_rfl) (by kernel_rfl) rfl rfl rfl rfl (gives_move rfl rfl) (fun _ _ => trivial) ?_
        refine TH.take (listed' := #[true, true, true, true, true, true, true, true, true, true, false, false, false, false, false, false, false, false, false, false, false, false, false, false]) 9 rfl (by kernel_rfl) (by kernel_rfl) (by kernel_rfl) rfl rfl rfl rfl (gives_move rfl rfl) (fun _ _ => trivial) ?_
        refine TH.take (listed' := #[true, true, true, true, true, true, true, true, true, true, true, false, false, false, false, false, false, false, false, false, false, false, false, false]) 10 rfl (by kernel_rfl) (by kernel_rfl) (by kernel_rfl) rfl rfl rfl rfl (gives_move rfl rfl) (fun _ _ => trivial) ?_
        refine TH.take (listed' := #[true, true, true, true, true, true, true, true, true, true, true, true, false, false, false, false, false, false, false, false, false, false, false, false]) 11 rfl (by kernel_rfl) (by kernel_rfl) (by kernel_rfl) rfl rfl rfl rfl (gives_bin rfl rfl rfl (fun w => bin_add_ (r := ((f + (2 * r + 1 + 1) : Nat) : Int)) (by simp only [IntKind.wrap_i64]; omega) w)) (fun _ _ => trivial) ?_
        refine TH.take (listed' := #[true, true, true, true, true, true, true, true, true, true, true, true, true, false, false, false, false, false, false, false, false, false, false, false]) 12 rfl (by kernel_rfl) (by kernel_rfl) (by kernel_rfl) rfl rfl rfl rfl (gives_at (v := .pointer (some ⟨g, f + (2 * r + 1 + 1), none⟩)) rfl rfl rfl (fun w => at_row Try.underlying31 us2sz35 g _ _ (f + (2 * r + 1 + 1)) (by omega) rfl w)) (fun _ _ => trivial) ?_
        refine TH.take (listed' := #[true, true, true, true, true, true, true, true, true, true, true, true, true, false, true, false, false, false, false, false, false, false, false, false]) 14 rfl (by kernel_rfl) (by kernel_rfl) (by kernel_rfl) rfl rfl rfl rfl (gives_move rfl rfl) (fun _ _ => trivial) ?_
        refine TH.take (listed' := #[true, true, true, true, true, true, true, true, true, true, true, true, true, false, true, true, false, false, false, false, false, false, false, false]) 15 rfl (by kernel_rfl) (by kernel_rfl) (by kernel_rfl) rfl rfl rfl rfl (gives_move rfl rfl) (fun _ _ => trivial) ?_
        refine TH.take (listed' := #[true, true, true, true, true, true, true, true, true, true, true, true, true, false, true, true, true, false, false, false, false, false, false, false]) 16 rfl (by kernel_rfl) (by kernel_rfl) (by kernel_rfl) rfl rfl rfl rfl (gives_move rfl rfl) (fun _ _ => trivial) ?_
        refine TH.take (listed' := #[true, true, true, true, true, true, true, true, true, true, true, true, true, false, true, true, true, true, false, false, false, false, false, false]) 17 rfl (by kernel_rfl) (by kernel_rfl) (by kernel_rfl) rfl rfl rfl rfl (gives_bin rfl rfl rfl (fun w => bin_add_ (r := ((f + r : Nat) : Int)) (by simp only [IntKind.wrap_i64]; omega) w)) (fun _ _ => trivial) ?_
        refine TH.take (listed' := #[true, true, true, true, true, true, true, true, true, true, true, true, true, false, true, true, true, true, true, false, false, false, false, false]) 18 rfl (by kernel_rfl) (by kernel_rfl) (by kernel_rfl) rfl rfl rfl rfl (gives_at (v := .pointer (some ⟨g, f + r, none⟩)) rfl rfl rfl (fun w => at_row Try.underlying31 us2sz35 g _ _ (f + r) (by omega) rfl w)) (fun _ _ => trivial) ?_
        refine TH.two' (listed1 := #[true, true, true, true, true, true, true, true, true, true, true, true, true, true, true, true, true, true, true, false, false, false, false, false]) (listed2 := #[true, true, true, true, true, true, true, true, true, true, true, true, true, false, true, true, true, true, true, true, false, false, false, false]) 13 19 rfl rfl (by kernel_rfl) rfl rfl ?_ ?_
        · refine TL.val rfl rfl rfl (pm_loadU (k := 0) (i := f + (2 * r + 1 + 1)) rfl rfl us2ag35 rfl (by omega)) ?_
          refine TL.end_ ?_
          refine TX.held (fun _ _ => trivial) ?_
          refine TH.only' (listed' := #[true, true, true, true, true, true, true, true, true, true, true, true, true, true, true, true, true, true, true, true, false, false, false, false]) 19 rfl (by kernel_rfl) rfl ?_
          refine TL.val rfl rfl rfl (pm_loadU (k := 0) (i := f + r) rfl rfl us2ag35 rfl (by omega)) ?_
          refine TL.end_ ?_
          refine TX.held (fun _ _ => trivial) ?_
          refine TH.take (listed' := #[true, true, true, true, true, true, true, true, true, true, true, true, true, true, true, true, true, true, true, true, true, false, false, false]) 20 rfl (by kernel_rfl) (by kernel_rfl) (by kernel_rfl) rfl rfl rfl rfl (gives_at (v := .pointer (some ⟨g, f + r, none⟩)) rfl rfl rfl (fun w => at_row Try.underlying31 us2sz35 g _ _ (f + r) (by omega) rfl w)) (fun _ _ => trivial) ?_
          refine TH.only' (listed' := #[true, true, true, true, true, true, true, true, true, true, true, true, true, true, true, true, true, true, true, true, true, true, false, false]) 21 rfl (by kernel_rfl) rfl ?_
          refine TL.uset (k := 0) (i := f + r) rfl rfl rfl rfl rfl rfl us2sz35 (by omega) ?_
          refine TL.end_ ?_
          refine TX.held (fun _ _ => trivial) ?_
          refine TH.take (listed' := #[true, true, true, true, true, true, true, true, true, true, true, true, true, true, true, true, true, true, true, true, true, true, true, false]) 22 rfl (by kernel_rfl) (by kernel_rfl) (by kernel_rfl) rfl rfl rfl rfl (gives_at (v := .pointer (some ⟨g, f + (2 * r + 1 + 1), none⟩)) rfl rfl rfl (fun w => at_row Try.underlying31 us2sz35 g _ _ (f + (2 * r + 1 + 1)) (by omega) rfl w)) (fun _ _ => trivial) ?_
          refine TH.only' (listed' := #[true, true, true, true, true, true, true, true, true, true, true, true, true, true, true, true, true, true, true, true, true, true, true, true]) 23 rfl (by kernel_rfl) rfl ?_
          refine TL.uset (k := 0) (i := f + (2 * r + 1 + 1)) rfl rfl rfl rfl rfl rfl us2sz35 (by rw [List.length_set]; omega) ?_
          refine TL.end_ ?_
          refine TX.held (fun _ _ => trivial) ?_
          refine TH.done (by kernel_rfl) ?_
          refine TX.then_ ?_
          refine TC.region ?_
          refine TL.val rfl rfl rfl (gives_move rfl rfl) ?_
          refine TL.val rfl rfl rfl (gives_assign rfl rfl) ?_
          refine TL.end_ ?_
          refine TX.in_normal ?_
          exact TX.round (⟨(2 * r + 1 + 1, swp ys (f + r) (f + (2 * r + 1 + 1))), hS.down (by omega) (by omega) (by omega) p4 hmx, by dsimp only; omega, hP.swap (by omega) (by omega) (by omega) (by omega) (by omega), by rw [swp_len]; exact hly⟩) (by dsimp only; omega) ⟨rfl, rfl, rfl, rfl, trivial⟩ (fun w1 hw => hw)
        · refine TL.val rfl rfl rfl (pm_loadU (k := 0) (i := f + r) rfl rfl us2ag35 rfl (by omega)) ?_
          refine TL.end_ ?_
          refine TX.held (fun _ _ => trivial) ?_
          refine TH.only' (listed' := #[true, true, true, true, true, true, true, true, true, true, true, true, true, true, true, true, true, true, true, true, false, false, false, false]) 13 rfl (by kernel_rfl) rfl ?_
          refine TL.val rfl rfl rfl (pm_loadU (k := 0) (i := f + (2 * r + 1 + 1)) rfl rfl us2ag35 rfl (by omega)) ?_
          refine TL.end_ ?_
          refine TX.held (fun _ _ => trivial) ?_
          refine TH.take (listed' := #[true, true, true, true, true, true, true, true, true, true, true, true, true, true, true, true, true, true, true, true, true, false, false, false]) 20 rfl (by kernel_rfl) (by kernel_rfl) (by kernel_rfl) rfl rfl rfl rfl (gives_at (v := .pointer (some ⟨g, f + r, none⟩)) rfl rfl rfl (fun w => at_row Try.underlying31 us2sz35 g _ _ (f + r) (by omega) rfl w)) (fun _ _ => trivial) ?_
          refine TH.only' (listed' := #[true, true, true, true, true, true, true, true, true, true, true, true, true, true, true, true, true, true, true, true, true, true, false, false]) 21 rfl (by kernel_rfl) rfl ?_
          refine TL.uset (k := 0) (i := f + r) rfl rfl rfl rfl rfl rfl us2sz35 (by omega) ?_
          refine TL.end_ ?_
          refine TX.held (fun _ _ => trivial) ?_
          refine TH.take (listed' := #[true, true, true, true, true, true, true, true, true, true, true, true, true, true, true, true, true, true, true, true, true, true, true, false]) 22 rfl (by kernel_rfl) (by kernel_rfl) (by kernel_rfl) rfl rfl rfl rfl (gives_at (v := .pointer (some ⟨g, f + (2 * r + 1 + 1), none⟩)) rfl rfl rfl (fun w => at_row Try.underlying31 us2sz35 g _ _ (f + (2 * r + 1 + 1)) (by omega) rfl w)) (fun _ _ => trivial) ?_
          refine TH.only' (listed' := #[true, true, true, true, true, true, true, true, true, true, true, true, true, true, true, true, true, true, true, true, true, true, true, true]) 23 rfl (by kernel_rfl) rfl ?_
          refine TL.uset (k := 0) (i := f + (2 * r + 1 + 1)) rfl rfl rfl rfl rfl rfl us2sz35 (by rw [List.length_set]; omega) ?_
          refine TL.end_ ?_
          refine TX.held (fun _ _ => trivial) ?_
          refine TH.done (by kernel_rfl) ?_
          refine TX.then_ ?_
          refine TC.region ?_
          refine TL.val rfl rfl rfl (gives_move rfl rfl) ?_
          refine TL.val rfl rfl rfl (gives_assign rfl rfl) ?_
          refine TL.end_ ?_
          refine TX.in_normal ?_
          exact TX.round (⟨(2 * r + 1 + 1, swp ys (f + r) (f + (2 * r + 1 + 1))), hS.down (by omega) (by omega) (by omega) p4 hmx, by dsimp only; omega, hP.swap (by omega) (by omega) (by omega) (by omega) (by omega), by rw [swp_len]; exact hly⟩) (by dsimp only; omega) ⟨rfl, rfl, rfl, rfl, trivial⟩ (fun w1 hw => hw)
      · have hH : Hp f lo hi ys := hS.stop (fun d hd hdh => by rcases hd with rfl | rfl <;> omega)
        refine TC.quiet_ (E' := ?_) (by kernel_rfl) (by kernel_rfl) (fun w hw => hw.drawn _) ?_ ?_
        rotate_left
        · refine TQ.val rfl rfl rfl (gives_move rfl rfl) ?_
          refine TQ.val rfl rfl rfl (gives_move rfl rfl) ?_
          refine TQ.val rfl rfl rfl (gives_move rfl rfl) ?_
          refine TQ.val rfl rfl rfl (gives_bin rfl rfl rfl (fun w => bin_add_ (r := ((f + r : Nat) : Int)) (by simp only [IntKind.wrap_i64]; omega) w)) ?_
          refine TQ.val rfl rfl rfl (gives_at (v := .pointer (some ⟨g, f + r, none⟩)) rfl rfl rfl (fun w => at_row Try.underlying31 us2sz35 g _ _ (f + r) (by omega) rfl w)) ?_
          refine TQ.val rfl rfl rfl (pm_loadU (k := 0) (i := f + r) rfl rfl us2ag35 rfl (by omega)) ?_
          refine TQ.val rfl rfl rfl (gives_move rfl rfl) ?_
          refine TQ.val rfl rfl rfl (gives_move rfl rfl) ?_
          refine TQ.val rfl rfl rfl (gives_move rfl rfl) ?_
          refine TQ.val rfl rfl rfl (gives_bin rfl rfl rfl (fun w => bin_add_ (r := ((f + (2 * r + 1 + 1) : Nat) : Int)) (by simp only [IntKind.wrap_i64]; omega) w)) ?_
          refine TQ.val rfl rfl rfl (gives_at (v := .pointer (some ⟨g, f + (2 * r + 1 + 1), none⟩)) rfl rfl rfl (fun w => at_row Try.underlying31 us2sz35 g _ _ (f + (2 * r + 1 + 1)) (by omega) rfl w)) ?_
          refine TQ.val rfl rfl rfl (pm_loadU (k := 0) (i := f + (2 * r + 1 + 1)) rfl rfl us2ag35 rfl (by omega)) ?_
          refine TQ.call (v := .bool false) rfl rfl rfl rfl rfl Try.func68 us2nm68 us2bd68 (fun w1 hw => (less_f _ _ p4 w1).mono fun en w2 ⟨h1, h2⟩ => ⟨h1, hw.below h2⟩) ?_
          refine TQ.val rfl rfl rfl (gives_boolnot rfl rfl) ?_
          exact TQ.end_
        refine TX.then_ ?_
        refine TC.condT rfl ?_
        refine TC.ret_ ?_
        refine TX.then_ret ?_
        refine TX.in_ret ?_
        refine TX.then_ret ?_
        refine TX.in_ret ?_
        exact ret_none Try.results73 (fun w1 hw => ⟨(), ys, rfl, ⟨hP, hH⟩, pm_rowAt hw (k := 0) rfl, hw.mapEnd (fun q hq => by simp [hq])⟩)
    · have p3 : ¬ dx ys (f + (2 * r + 1)) < dx ys (f + (2 * r + 2)) := p2
      refine TC.quiet_ (E' := ?_) (by kernel_rfl) (by kernel_rfl) (fun w hw => hw.drawn _) ?_ ?_
      rotate_left
      · refine TQ.val rfl rfl rfl (gives_move rfl rfl) ?_
        refine TQ.val rfl rfl rfl (gives_bin rfl rfl rfl (fun w => bin_add_ (r := ((2 * r + 1 + 1 : Nat) : Int)) (by simp only [IntKind.wrap_i64]; omega) w)) ?_
        refine TQ.val rfl rfl rfl (gives_move rfl rfl) ?_
        refine TQ.val rfl rfl rfl (gives_bin rfl rfl rfl (fun w => bin_lss_t (by omega) w)) ?_
        refine TQ.val rfl rfl rfl (gives_move rfl rfl) ?_
        refine TQ.on rfl rfl rfl ?_
        refine TQ.val rfl rfl rfl (gives_move rfl rfl) ?_
        refine TQ.on rfl rfl rfl ?_
        refine TQ.val rfl rfl rfl (gives_move rfl rfl) ?_
        refine TQ.on rfl rfl rfl ?_
        refine TQ.val rfl rfl rfl (gives_move rfl rfl) ?_
        refine TQ.on rfl rfl rfl ?_
        refine TQ.val rfl rfl rfl (gives_bin rfl rfl rfl (fun w => bin_add_ (r := ((f + (2 * r + 1) : Nat) : Int)) (by simp only [IntKind.wrap_i64]; omega) w)) ?_
        refine TQ.on rfl rfl rfl ?_
        refine TQ.val rfl rfl rfl (gives_at (v := .pointer (some ⟨g, f + (2 * r + 1), none⟩)) rfl rfl rfl (fun w => at_row Try.underlying31 us2sz35 g _ _ (f + (2 * r + 1)) (by omega) rfl w)) ?_
        refine TQ.on rfl rfl rfl ?_
        refine TQ.val rfl rfl rfl (pm_loadU (k := 0) (i := f + (2 * r + 1)) rfl rfl us2ag35 rfl (by omega)) ?_
        refine TQ.on rfl rfl rfl ?_
        refine TQ.val rfl rfl rfl (gives_move rfl rfl) ?_
        refine TQ.on rfl rfl rfl ?_
        refine TQ.val rfl rfl rfl (gives_move rfl rfl) ?_
        refine TQ.on rfl rfl rfl ?_
        refine TQ.val rfl rfl rfl (gives_move rfl rfl) ?_
        refine TQ.on rfl rfl rfl ?_
        refine TQ.val rfl rfl rfl (gives_bin rfl rfl rfl (fun w => bin_add_ (r := ((f + (2 * r + 1) : Nat) : Int)) (by simp only [IntKind.wrap_i64]; omega) w)) ?_
        refine TQ.on rfl rfl rfl ?_
        refine TQ.val rfl rfl rfl (gives_bin rfl rfl rfl (fun w => bin_add_ (r := ((f + (2 * r + 1) + 1 : Nat) : Int)) (by simp only [IntKind.wrap_i64]; omega) w)) ?_
        refine TQ.on rfl rfl rfl ?_
        refine TQ.val rfl rfl rfl (gives_at (v := .pointer (some ⟨g, f + (2 * r + 1) + 1, none⟩)) rfl rfl rfl (fun w => at_row Try.underlying31 us2sz35 g _ _ (f + (2 * r + 1) + 1) (by omega) rfl w)) ?_
        refine TQ.on rfl rfl rfl ?_
        refine TQ.val rfl rfl rfl (pm_loadU (k := 0) (i := f + (2 * r + 1) + 1) rfl rfl us2ag35 rfl (by omega)) ?_
        refine TQ.on rfl rfl rfl ?_
        refine TQ.call (v := .bool false) rfl rfl rfl rfl rfl Try.func68 us2nm68 us2bd68 (fun w1 hw => (less_f _ _ p2 w1).mono fun en w2 ⟨h1, h2⟩ => ⟨h1, hw.below h2⟩) ?_
        refine TQ.val rfl rfl rfl (gives_pick rfl rfl rfl) ?_
        exact TQ.end_
      refine TX.then_ ?_
      refine TC.condF rfl ?_
      refine TC.skip_ ?_
      refine TX.then_ ?_
      refine TC.seq_ ?_
      refine TC.seq_ ?_
      rcases Classical.em (dx ys (f + r) < dx ys (f + (2 * r + 1))) with p4 | p4
      · have hmx : ∀ d, (d = 2 * r + 1 ∨ d = 2 * r + 2) → d < hi → dx ys (f + d) ≤ dx ys (f + (2 * r + 1)) := fun d hd hdh => by rcases hd with rfl | rfl <;> omega
        refine TC.quiet_ (E' := ?_) (by kernel_rfl) (by kernel_rfl) (fun w hw => hw.drawn _) ?_ ?_
        rotate_left
        · refine TQ.val rfl rfl rfl (gives_move rfl rfl) ?_
          refine TQ.val rfl rfl rfl (gives_move rfl rfl) ?_
          refine TQ.val rfl rfl rfl (gives_move rfl rfl) ?_
          refine TQ.val rfl rfl rfl (gives_bin rfl rfl rfl (fun w => bin_add_ (r := ((f + r : Nat) : Int)) (by simp only [IntKind.wrap_i64]; omega) w)) ?_
          refine TQ.val rfl rfl rfl (gives_at (v := .pointer (some ⟨g, f + r, none⟩)) rfl rfl rfl (fun w => at_row Try.underlying31 us2sz35 g _ _ (f + r) (by omega) rfl w)) ?_
          refine TQ.val rfl rfl rfl (pm_loadU (k := 0) (i := f + r) rfl rfl us2ag35 rfl (by omega)) ?_
          refine TQ.val rfl rfl rfl (gives_move rfl rfl) ?_
          refine TQ.val rfl rfl rfl (gives_move rfl rfl) ?_
          refine TQ.val rfl rfl rfl (gives_move rfl rfl) ?_
          refine TQ.val rfl rfl rfl (gives_bin rfl rfl rfl (fun w => bin_add_ (r := ((f + (2 * r + 1) : Nat) : Int)) (by simp only [IntKind.wrap_i64]; omega) w)) ?_
          refine TQ.val rfl rfl rfl (gives_at (v := .pointer (some ⟨g, f + (2 * r + 1), none⟩)) rfl rfl rfl (fun w => at_row Try.underlying31 us2sz35 g _ _ (f + (2 * r + 1)) (by omega) rfl w)) ?_
          refine TQ.val rfl rfl rfl (pm_loadU (k := 0) (i := f + (2 * r + 1)) rfl rfl us2ag35 rfl (by omega)) ?_
          refine TQ.call (v := .bool true) rfl rfl rfl rfl rfl Try.func68 us2nm68 us2bd68 (fun w1 hw => (less_t _ _ p4 w1).mono fun en w2 ⟨h1, h2⟩ => ⟨h1, hw.below h2⟩) ?_
          refine TQ.val rfl rfl rfl (gives_boolnot rfl rfl) ?_
          exact TQ.end_
        refine TX.then_ ?_
        refine TC.condF rfl ?_
        refine TC.skip_ ?_
        refine TX.then_ ?_
        refine TC.seq_ ?_
        refine TC.held (ls := #[false, false, false, false, false, false, false, false, false, false, false, false, false, false, false, false, false, false, false, false, false, false, false, false]) (fun _ => True) (by kernel_rfl) rfl rfl (fun w hw => hw.drawn _) ?_
        refine TH.take (listed' := #[true, false, false, false, false, false, false, false, false, false, false, false, false, false, false, false, false, false, false, false, false, false, false, false]) 0 rfl (by kernel_rfl) (by kernel_rfl) (by kernel_rfl) rfl rfl rfl rfl (gives_move rfl rfl) (fun _ _ => trivial) ?_
        refine TH.take (listed' := #[true, true, false, false, false, false, false, false, false, false, false, false, false, false, false, false, false, false, false, false, false, false, false, false]) 1 rfl (by kernel_rfl) (by kernel_rfl) (by kernel_rfl) rfl rfl rfl rfl (gives_move rfl rfl) (fun _ _ => trivial) ?_
        refine TH.take (listed' := #[true, true, true, false, false, false, false, false, false, false, false, false, false, false, false, false, false, false, false, false, false, false, false, false]) 2 rfl (by kernel_rfl) (by kernel_rfl) (by kernel_rfl) rfl rfl rfl rfl (gives_move rfl rfl) (fun _ _ => trivial) ?_
        refine TH.take (listed' := #[true, true, true, true, false, false, false, false, false, false, false, false, false, false, false, false, false, false, false, false, false, false, false, false]) 3 rfl (by kernel_rfl) (by kernel_rfl) (by kernel_rfl) rfl rfl rfl rfl (gives_bin rfl rfl rfl (fun w => bin_add_ (r := ((f + r : Nat) : Int)) (by simp only [IntKind.wrap_i64]; omega) w)) (fun _ _ => trivial) ?_
        refine TH.take (listed' := #[true, true, true, true, true, false, false, false, false, false, false, false, false, false, false, false, false, false, false, false, false, false, false, false]) 4 rfl (by kernel_rfl) (by kernel_rfl) (by kernel_rfl) rfl rfl rfl rfl (gives_move rfl rfl) (fun _ _ => trivial) ?_
        refine TH.take (listed' := #[true, true, true, true, true, true, false, false, false, false, false, false, false, false, false, false, false, false, false, false, false, false, false, false]) 5 rfl (by kernel_rfl) (by kernel_rfl) (by kernel_rfl) rfl rfl rfl rfl (gives_move rfl rfl) (fun _ _ => trivial) ?_
        refine TH.take (listed' := #[true, true, true, true, true, true, true, false, false, false, false, false, false, false, false, false, false, false, false, false, false, false, false, false]) 6 rfl (by kernel_rfl) (by kernel_rfl) (by kernel_rfl) rfl rfl rfl rfl (gives_move rfl rfl) (fun _ _ => trivial) ?_
        refine TH.take (listed' := #[true, true, true, true, true, true, true, true, false, false, false, false, false, false, false, false, false, false, false, false, false, false, false, false]) 7 rfl (by kernel_rfl) (by kernel_rfl) (by kernel_rfl) rfl rfl rfl rfl (gives_bin rfl rfl rfl (fun w => bin_add_ (r := ((f + (2 * r + 1) : Nat) : Int)) (by simp only [IntKind.wrap_i64]; omega) w)) (fun _ _ => trivial) ?_
        refine TH.take (listed' := #[true, true, true, true, true, true, true, true, true, false, false, false, false, false, false, false, false, false, false, false, false, false, false, false]) 8 rfl (by kernel_rfl) (by kernel_rfl) (by kernel_rfl) rfl rfl rfl rfl (gives_move rfl rfl) (fun _ _ => trivial) ?_
        refine TH.take (listed' := #[true, true, true, true, true, true, true, true, true, true, false, false, false, false, false, false, false, false, false, false, false, false, false, false]) 9 rfl (by kernel_rfl) (by kernel_rfl) (by kernel_rfl) rfl rfl rfl rfl (gives_move rfl rfl) (fun _ _ => trivial) ?_
        refine TH.take (listed' := #[true, true, true, true, true, true, true, true, true, true, true, false, false, false, false, false, false, false, false, false, false, false, false, false]) 10 rfl (by kernel_rfl) (by kernel_rfl) (by kernel_rfl) rfl rfl rfl rfl (gives_move rfl rfl) (fun _ _ => trivial) ?_
        refine TH.take (listed' := #[true, true, true, true, true, true, true, true, true, true, true, true, false, false, false, false, false, false, false, false, false, false, false, false]) 11 rfl (by kernel_rfl) (by kernel_rfl) (by kernel_rfl) rfl rfl rfl rfl (gives_bin rfl rfl rfl (fun w => bin_add_ (r := ((f + (2 * r + 1) : Nat) : Int)) (by simp only [IntKind.wrap_i64]; omega) w)) (fun _ _ => trivial) ?_
        refine TH.take (listed' := #[true, true, true, true, true, true, true, true, true, true, true, true, true, false, false, false, false, false, false, false, false, false, false, false]) 12 rfl (by kernel_rfl) (by kernel_rfl) (by kernel_rfl) rfl rfl rfl rfl (gives_at (v := .pointer (some ⟨g, f + (2 * r + 1), none⟩)) rfl rfl rfl (fun w => at_row Try.underlying31 us2sz35 g _ _ (f + (2 * r + 1)) (by omega) rfl w)) (fun _ _ => trivial) ?_
        refine TH.take (listed' := #[true, true, true, true, true, true, true, true, true, true, true, true, true, false, true, false, false, false, false, false, false, false, false, false]) 14 rfl (by kernel_rfl) (by kernel_rfl) (by kernel_rfl) rfl rfl rfl rfl (gives_move rfl rfl) (fun _ _ => trivial) ?_
        refine TH.take (listed' := #[true, true, true, true, true, true, true, true, true, true, true, true, true, false, true, true, false, false, false, false, false, false, false, false]) 15 rfl (by kernel_rfl) (by kernel_rfl) (by kernel_rfl) rfl rfl rfl rfl (gives_move rfl rfl) (fun _ _ => trivial) ?_
        refine TH.take (listed' := #[true, true, true, true, true, true, true, true, true, true, true, true, true, false, true, true, true, false, false, false, false, false, false, false]) 16 rfl (by kernel_rfl) (by kernel_rfl) (by kernel_rfl) rfl rfl rfl rfl (gives_move rfl rfl) (fun _ _ => trivial) ?_
        refine TH.take (listed' := #[true, true, true, true, true, true, true, true, true, true, true, true, true, false, true, true, true, true, false, false, false, false, false, false]) 17 rfl (by kernel_rfl) (by kernel_rfl) (by kernel_rfl) rfl rfl rfl rfl (gives_bin rfl rfl rfl (fun w => bin_add_ (r := ((f + r : Nat) : Int)) (by simp only [IntKind.wrap_i64]; omega) w)) (fun _ _ => trivial) ?_
        refine TH.take (listed' := #[true, true, true, true, true, true, true, true, true, true, true, true, true, false, true, true, true, true, true, false, false, false, false, false]) 18 rfl (by kernel_rfl) (by kernel_rfl) (by kernel_rfl) rfl rfl rfl rfl (gives_at (v := .pointer (some ⟨g, f + r, none⟩)) rfl rfl rfl (fun w => at_row Try.underlying31 us2sz35 g _ _ (f + r) (by omega) rfl w)) (fun _ _ => trivial) ?_
        refine TH.two' (listed1 := #[true, true, true, true, true, true, true, true, true, true, true, true, true, true, true, true, true, true, true, false, false, false, false, false]) (listed2 := #[true, true, true, true, true, true, true, true, true, true, true, true, true, false, true, true, true, true, true, true, false, false, false, false]) 13 19 rfl rfl (by kernel_rfl) rfl rfl ?_ ?_
        · refine TL.val rfl rfl rfl (pm_loadU (k := 0) (i := f + (2 * r + 1)) rfl rfl us2ag35 rfl (by omega)) ?_
          refine TL.end_ ?_
          refine TX.held (fun _ _ => trivial) ?_
          refine TH.only' (listed' := #[true, true, true, true, true, true, true, true, true, true, true, true, true, true, true, true, true, true, true, true, false, false, false, false]) 19 rfl (by kernel_rfl) rfl ?_
          refine TL.val rfl rfl rfl (pm_loadU (k := 0) (i := f + r) rfl rfl us2ag35 rfl (by omega)) ?_
          refine TL.end_ ?_
          refine TX.held (fun _ _ => trivial) ?_
          refine TH.take (listed' := #[true, true, true, true, true, true, true, true, true, true, true, true, true, true, true, true, true, true, true, true, true, false, false, false]) 20 rfl (by kernel_rfl) (by kernel_rfl) (by kernel_rfl) rfl rfl rfl rfl (gives_at (v := .pointer (some ⟨g, f + r, none⟩)) rfl rfl rfl (fun w => at_row Try.underlying31 us2sz35 g _ _ (f + r) (by omega) rfl w)) (fun _ _ => trivial) ?_
          refine TH.only' (listed' := #[true, true, true, true, true, true, true, true, true, true, true, true, true, true, true, true, true, true, true, true, true, true, false, false]) 21 rfl (by kernel_rfl) rfl ?_
          refine TL.uset (k := 0) (i := f + r) rfl rfl rfl rfl rfl rfl us2sz35 (by omega) ?_
          refine TL.end_ ?_
          refine TX.held (fun _ _ => trivial) ?_
          refine TH.take (listed' := #[true, true, true, true, true, true, true, true, true, true, true, true, true, true, true, true, true, true, true, true, true, true, true, false]) 22 rfl (by kernel_rfl) (by kernel_rfl) (by kernel_rfl) rfl rfl rfl rfl (gives_at (v := .pointer (some ⟨g, f + (2 * r + 1), none⟩)) rfl rfl rfl (fun w => at_row Try.underlying31 us2sz35 g _ _ (f + (2 * r + 1)) (by omega) rfl w)) (fun _ _ => trivial) ?_
          refine TH.only' (listed' := #[true, true, true, true, true, true, true, true, true, true, true, true, true, true, true, true, true, true, true, true, true, true, true, true]) 23 rfl (by kernel_rfl) rfl ?_
          refine TL.uset (k := 0) (i := f + (2 * r + 1)) rfl rfl rfl rfl rfl rfl us2sz35 (by rw [List.length_set]; omega) ?_
          refine TL.end_ ?_
          refine TX.held (fun _ _ => trivial) ?_
          refine TH.done (by kernel_rfl) ?_
          refine TX.then_ ?_
          refine TC.region ?_
          refine TL.val rfl rfl rfl (gives_move rfl rfl) ?_
          refine TL.val rfl rfl rfl (gives_assign rfl rfl) ?_
          refine TL.end_ ?_
          refine TX.in_normal ?_
          exact TX.round (⟨(2 * r + 1, swp ys (f + r) (f + (2 * r + 1))), hS.down (by omega) (by omega) (by omega) p4 hmx, by dsimp only; omega, hP.swap (by omega) (by omega) (by omega) (by omega) (by omega), by rw [swp_len]; exact hly⟩) (by dsimp only; omega) ⟨rfl, rfl, rfl, rfl, trivial⟩ (fun w1 hw => hw)
        · refine TL.val rfl rfl rfl (pm_loadU (k := 0) (i := f + r) rfl rfl us2ag35 rfl (by omega)) ?_
          refine TL.end_ ?_
          refine TX.held (fun _ _ => trivial) ?_
          refine TH.only' (listed' := #[true, true, true, true, true, true, true, true, true, true, true, true, true, true, true, true, true, true, true, true, false, false, false, false]) 13 rfl (by kernel_rfl) rfl ?_
          refine TL.val rfl rfl rfl (pm_loadU (k := 0) (i := f + (2 * r + 1)) rfl rfl us2ag35 rfl (by omega)) ?_
          refine TL.end_ ?_
          refine TX.held (fun _ _ => trivial) ?_
          refine TH.take (listed' := #[true, true, true, true, true, true, true, true, true, true, true, true, true, true, true, true, true, true, true, true, true, false, false, false]) 20 rfl (by kernel_rfl) (by kernel_rfl) (by kernel_rfl) rfl rfl rfl rfl (gives_at (v := .pointer (some ⟨g, f + r, none⟩)) rfl rfl rfl (fun w => at_row Try.underlying31 us2sz35 g _ _ (f + r) (by omega) rfl w)) (fun _ _ => trivial) ?_
          refine TH.only' (listed' := #[true, true, true, true, true, true, true, true, true, true, true, true, true, true, true, true, true, true, true, true, true, true, false, false]) 21 rfl (by kernel_rfl) rfl ?_
          refine TL.uset (k := 0) (i := f + r) rfl rfl rfl rfl rfl rfl us2sz35 (by omega) ?_
          refine TL.end_ ?_
          refine TX.held (fun _ _ => trivial) ?_
          refine TH.take (listed' := #[true, true, true, true, true, true, true, true, true, true, true, true, true, true, true, true, true, true, true, true, true, true, true, false]) 22 rfl (by kernel_rfl) (by kernel_rfl) (by kernel_rfl) rfl rfl rfl rfl (gives_at (v := .pointer (some ⟨g, f + (2 * r + 1), none⟩)) rfl rfl rfl (fun w => at_row Try.underlying31 us2sz35 g _ _ (f + (2 * r + 1)) (by omega) rfl w)) (fun _ _ => trivial) ?_
          refine TH.only' (listed' := #[true, true, true, true, true, true, true, true, true, true, true, true, true, true, true, true, true, true, true, true, true, true, true, true]) 23 rfl (by kernel_rfl) rfl ?_
          refine TL.uset (k := 0) (i := f + (2 * r + 1)) rfl rfl rfl rfl rfl rfl us2sz35 (by rw [List.length_set]; omega) ?_
          refine TL.end_ ?_
          refine TX.held (fun _ _ => trivial) ?_
          refine TH.done (by kernel_rfl) ?_
          refine TX.then_ ?_
          refine TC.region ?_
          refine TL.val rfl rfl rfl (gives_move rfl rfl) ?_
          refine TL.val rfl rfl rfl (gives_assign rfl rfl) ?_
          refine TL.end_ ?_
          refine TX.in_normal ?_
          exact TX.round (⟨(2 * r + 1, swp ys (f + r) (f + (2 * r + 1))), hS.down (by omega) (by omega) (by omega) p4 hmx, by dsimp only; omega, hP.swap (by omega) (by omega) (by omega) (by omega) (by omega), by rw [swp_len]; exact hly⟩) (by dsimp only; omega) ⟨rfl, rfl, rfl, rfl, trivial⟩ (fun w1 hw => hw)
      · have hH : Hp f lo hi ys := hS.stop (fun d hd hdh => by rcases hd with rfl | rfl <;> omega)
        refine TC.quiet_ (E' := ?_) (by kernel_rfl) (by kernel_rfl) (fun w hw => hw.drawn _) ?_ ?_
        rotate_left
        · refine TQ.val rfl rfl rfl (gives_move rfl rfl) ?_
          refine TQ.val rfl rfl rfl (gives_move rfl rfl) ?_
          refine TQ.val rfl rfl rfl (gives_move rfl rfl) ?_
          refine TQ.val rfl rfl rfl (gives_bin rfl rfl rfl (fun w => bin_add_ (r := ((f + r : Nat) : Int)) (by simp only [IntKind.wrap_i64]; omega) w)) ?_
          refine TQ.val rfl rfl rfl (gives_at (v := .pointer (some ⟨g, f + r, none⟩)) rfl rfl rfl (fun w => at_row Try.underlying31 us2sz35 g _ _ (f + r) (by omega) rfl w)) ?_
          refine TQ.val rfl rfl rfl (pm_loadU (k := 0) (i := f + r) rfl rfl us2ag35 rfl (by omega)) ?_
          refine TQ.val rfl rfl rfl (gives_move rfl rfl) ?_
          refine TQ.val rfl rfl rfl (gives_move rfl rfl) ?_
          refine TQ.val rfl rfl rfl (gives_move rfl rfl) ?_
          refine TQ.val rfl rfl rfl (gives_bin rfl rfl rfl (fun w => bin_add_ (r := ((f + (2 * r + 1) : Nat) : Int)) (by simp only [IntKind.wrap_i64]; omega) w)) ?_
          refine TQ.val rfl rfl rfl (gives_at (v := .pointer (some ⟨g, f + (2 * r + 1), none⟩)) rfl rfl rfl (fun w => at_row Try.underlying31 us2sz35 g _ _ (f + (2 * r + 1)) (by omega) rfl w)) ?_
          refine TQ.val rfl rfl rfl (pm_loadU (k := 0) (i := f + (2 * r + 1)) rfl rfl us2ag35 rfl (by omega)) ?_
          refine TQ.call (v := .bool false) rfl rfl rfl rfl rfl Try.func68 us2nm68 us2bd68 (fun w1 hw => (less_f _ _ p4 w1).mono fun en w2 ⟨h1, h2⟩ => ⟨h1, hw.below h2⟩) ?_
          refine TQ.val rfl rfl rfl (gives_boolnot rfl rfl) ?_
          exact TQ.end_
        refine TX.then_ ?_
        refine TC.condT rfl ?_
        refine TC.ret_ ?_
        refine TX.then_ret ?_
        refine TX.in_ret ?_
        refine TX.then_ret ?_
        refine TX.in_ret ?_
        exact ret_none Try.results73 (fun w1 hw => ⟨(), ys, rfl, ⟨hP, hH⟩, pm_rowAt hw (k := 0) rfl, hw.mapEnd (fun q hq => by simp [hq])⟩)
set_option maxHeartbeats 1000000 in
theorem heap_any (g n c : Nat) (xs : List Int) (w : World) (h : Rw 35 w g n c xs) (hn : n ≤ 1000000) (a b : Nat) (hab : a < b) (hb : b ≤ n) :
    Calls Try.prog 63 #[.slice (some ⟨g, 0, none⟩) n c, .int .i64 ((a : Nat) : Int), .int .i64 ((b : Nat) : Int)] w (RC (α := Unit) (fun _ => .tuple #[]) (fun _ ys => Pin a b xs ys ∧ Srt a b ys) 35 g n c w) := by
  have hl := h.len
  refine begin_ (vs := [.slice (some ⟨g, 0, none⟩) n c, .int .i64 ((a : Nat) : Int), .int .i64 ((b : Nat) : Int)]) (I := Pm ⟨wbut w g, g⟩ (.row (.slice (some ⟨g, 0, none⟩) n c) 35 1 n (uv xs) :: oths g w)) Try.func63 rfl rfl rfl ?_ (Pm.rowStart h)
  refine TC.seq_ ?_
  refine TC.region ?_
  refine TL.val rfl rfl rfl (gives_move rfl rfl) ?_
  refine TL.val rfl rfl rfl (gives_assign rfl rfl) ?_
  refine TL.end_ ?_
  refine TX.then_ ?_
  refine TC.seq_ ?_
  refine TC.region ?_
  refine TL.val rfl rfl rfl (gives_assign rfl rfl) ?_
  refine TL.end_ ?_
  refine TX.then_ ?_
  refine TC.seq_ ?_
  refine TC.region ?_
  refine TL.val rfl rfl rfl (gives_move rfl rfl) ?_
  refine TL.val rfl rfl rfl (gives_move rfl rfl) ?_
  refine TL.val rfl rfl rfl (gives_bin rfl rfl rfl (fun w => bin_sub_ (r := ((b - a : Nat) : Int)) (by simp only [IntKind.wrap_i64]; omega) w)) ?_
  refine TL.val rfl rfl rfl (gives_assign rfl rfl) ?_
  refine TL.end_ ?_
  refine TX.then_ ?_
  refine TC.seq_ ?_
  refine TC.seq_ ?_
  refine TC.region ?_
  refine TL.val rfl rfl rfl (gives_move rfl rfl) ?_
  refine TL.val rfl rfl rfl (gives_bin rfl rfl rfl (fun w => bin_sub_ (r := (((b - a) - 1 : Nat) : Int)) (by simp only [IntKind.wrap_i64]; omega) w)) ?_
  refine TL.val rfl rfl rfl (gives_bin rfl rfl rfl (fun w => bin_quoi_ (r := ((((b - a) - 1) / 2 : Nat) : Int)) (by omega) (by omega) (by omega) (by omega) w)) ?_
  refine TL.val rfl rfl rfl (gives_assign rfl rfl) ?_
  refine TL.end_ ?_
  refine TX.then_ ?_
  refine TC.block ?_
  refine TC.loop_ (α := {y : Nat × List Int // y.1 ≤ b - a ∧ Hp a y.1 (b - a) y.2 ∧ Pin a b xs y.2 ∧ y.2.length = n}) (fun y => [(0, .slice (some ⟨g, 0, none⟩) n c), (6, .int .i64 ((a : Nat) : Int)), (7, .int .i64 0), (8, .int .i64 ((b - a : Nat) : Int)), (9, .int .i64 (((y.1.1 : Nat) : Int) - 1))]) (fun y => Pm ⟨wbut w g, g⟩ ([.row (.slice (some ⟨g, 0, none⟩) n c) 35 1 n (uv y.1.2)] ++ oths g w)) (fun y => y.1.1) (⟨((b - a - 1) / 2 + 1, xs), by dsimp only; omega, fun i c h1 h2 h3 => by dsimp only at h1; omega, Pin.refl _ _ _, hl⟩) ⟨rfl, rfl, rfl, rfl, congrArg (fun z => some (Value.int .i64 z)) (by (try dsimp only); omega), trivial⟩ (fun w1 hw => hw) ?_
  rintro ⟨⟨k, ys⟩, hk, hH, hP, hly⟩
  dsimp only at hk hH hP hly ⊢
  refine TC.seq_ ?_
  refine TC.seq_ ?_
  refine TC.region ?_
  refine TL.val rfl rfl rfl (gives_move rfl rfl) ?_
  refine TL.vsplit rfl rfl rfl (gives_bin rfl rfl rfl (fun w => bin_geq w)) (fun h19 => ?_) (fun h19 => ?_)
  · have q19 := of_decide_eq_true h19
    refine TL.end_ ?_
    refine TX.then_ ?_
    refine TC.condT rfl ?_
    refine TC.skip_ ?_
    refine TX.then_ ?_
    refine TC.seq_ ?_
    refine TC.block ?_
    refine TC.cut [(0, .slice (some ⟨g, 0, none⟩) n c), (6, .int .i64 ((a : Nat) : Int)), (7, .int .i64 0), (8, .int .i64 ((b - a : Nat) : Int)), (9, .int .i64 ((k - 1 : Nat) : Int)), (18, .int .i64 (((k : Nat) : Int) - 1)), (19, .bool true)] (Pm ⟨wbut w g, g⟩ ([.row (.slice (some ⟨g, 0, none⟩) n c) 35 1 n (uv ys)] ++ oths g w)) ⟨rfl, rfl, rfl, rfl, congrArg (fun z => some (Value.int .i64 z)) (by (try dsimp only); omega), rfl, rfl, trivial⟩ (fun w1 hw => hw) ?_
    refine TC.region ?_
    refine TL.val rfl rfl rfl (gives_move rfl rfl) ?_
    refine TL.val rfl rfl rfl (gives_move rfl rfl) ?_
    refine TL.val rfl rfl rfl (gives_move rfl rfl) ?_
    refine TL.val rfl rfl rfl (gives_move rfl rfl) ?_
    refine TL.pcallRw (k := 0) (α := Unit) (fun _ => .tuple #[]) (fun _ zs => Pin a (a + (b - a)) ys zs ∧ Hp a (k - 1) (b - a) zs) rfl rfl rfl rfl rfl Try.func73 us2nm73 us2bd73 rfl (fun w1 hw hr1 => sift_any g n c ys w1 hr1 hn (k - 1) (b - a) a (by omega) (by omega) (by rw [show k - 1 + 1 = k by omega]; exact hH)) ?_
    rintro ⟨⟩ zs ⟨hQ, hH2⟩
    try dsimp only [List.set_cons_zero, List.set_cons_succ]
    rw [show a + (b - a) = b by omega] at hQ
    have hlz : zs.length = n := hQ.len.trans hly
    refine TL.end_ ?_
    refine TX.in_normal ?_
    refine TX.then_ ?_
    refine TC.region ?_
    refine TL.val rfl rfl rfl (gives_move rfl rfl) ?_
    refine TL.val rfl rfl rfl (gives_bin rfl rfl rfl (fun w => bin_sub_ (r := ((k - 1 : Nat) : Int) - 1) (by simp only [IntKind.wrap_i64]; omega) w)) ?_
    refine TL.val rfl rfl rfl (gives_assign rfl rfl) ?_
    refine TL.end_ ?_
    exact TX.round (⟨(k - 1, zs), by dsimp only; omega, hH2, hP.trans hQ, hlz⟩) (by show k - 1 < k; omega) ⟨rfl, rfl, rfl, rfl, rfl, trivial⟩ (fun w1 hw => hw)
  · have q19 := of_decide_eq_false h19
    refine TL.end_ ?_
    refine TX.then_ ?_
    refine TC.condF rfl ?_
    refine TC.exit_ ?_
    refine TX.then_exit ?_
    refine TX.then_exit ?_
    refine TX.in_same ?_
    refine TX.then_ ?_
    refine TC.seq_ ?_
    refine TC.region ?_
    refine TL.val rfl rfl rfl (gives_move rfl rfl) ?_
    refine TL.val rfl rfl rfl (gives_bin rfl rfl rfl (fun w => bin_sub_ (r := (((b - a) - 1 : Nat) : Int)) (by simp only [IntKind.wrap_i64]; omega) w)) ?_
    refine TL.val rfl rfl rfl (gives_assign rfl rfl) ?_
    refine TL.end_ ?_
    refine TX.then_ ?_
    refine TC.block ?_
    refine TC.loop_ (α := {y : Nat × List Int // y.1 ≤ b - a ∧ Hsr a y.1 (b - a) y.2 ∧ Pin a b xs y.2 ∧ y.2.length = n}) (fun y => [(0, .slice (some ⟨g, 0, none⟩) n c), (6, .int .i64 ((a : Nat) : Int)), (7, .int .i64 0), (8, .int .i64 ((b - a : Nat) : Int)), (10, .int .i64 (((y.1.1 : Nat) : Int) - 1))]) (fun y => Pm ⟨wbut w g, g⟩ ([.row (.slice (some ⟨g, 0, none⟩) n c) 35 1 n (uv y.1.2)] ++ oths g w)) (fun y => y.1.1) (⟨(b - a, ys), Nat.le_refl _, ⟨by dsimp only; rw [show k = 0 by omega] at hH; exact hH, fun j k h1 h2 h3 => by dsimp only at h3; omega⟩, hP, hly⟩) ⟨rfl, rfl, rfl, rfl, congrArg (fun z => some (Value.int .i64 z)) (by (try dsimp only); omega), trivial⟩ (fun w1 hw => hw) ?_
    rintro ⟨⟨k, ys⟩, hk, hH, hP, hly⟩
    dsimp only at hk hH hP hly ⊢
    refine TC.seq_ ?_
    refine TC.seq_ ?_
    refine TC.region ?_
    refine TL.val rfl rfl rfl (gives_move rfl rfl) ?_
    refine TL.vsplit rfl rfl rfl (gives_bin rfl rfl rfl (fun w => bin_geq w)) (fun h30 => ?_) (fun h30 => ?_)
    · have q30 := of_decide_eq_true h30
      refine TL.end_ ?_
      refine TX.then_ ?_
      refine TC.condT rfl ?_
      refine TC.skip_ ?_
      refine TX.then_ ?_
      refine TC.seq_ ?_
      refine TC.block ?_
      refine TC.seq_ ?_
      refine TC.cut [(0, .slice (some ⟨g, 0, none⟩) n c), (6, .int .i64 ((a : Nat) : Int)), (7, .int .i64 0), (8, .int .i64 ((b - a : Nat) : Int)), (10, .int .i64 ((k - 1 : Nat) : Int)), (29, .int .i64 (((k : Nat) : Int) - 1)), (30, .bool true)] (Pm ⟨wbut w g, g⟩ ([.row (.slice (some ⟨g, 0, none⟩) n c) 35 1 n (uv ys)] ++ oths g w)) ⟨rfl, rfl, rfl, rfl, congrArg (fun z => some (Value.int .i64 z)) (by (try dsimp only); omega), rfl, rfl, trivial⟩ (fun w1 hw => hw) ?_
      refine TC.held (ls := #[false, false, false, false, false, false, false, false, false, false, false, false, false, false, false, false, false, false, false, false]) (fun _ => True) (by kernel_rfl) rfl rfl (fun w hw => hw.drawn _) ?_
      refine TH.take (listed' := #[true, false, false, false, false, false, false, false, false, false, false, false, false, false, false, false, false, false, false, false]) 0 rfl (by kernel_rfl) (by kernel_rfl) (by kernel_rfl) rfl rfl rfl rfl (gives_move rfl rfl) (fun _ _ => trivial) ?_
      refine TH.take (listed' := #[true, true, false, false, false, false, false, false, false, false, false, false, false, false, false, false, false, false, false, false]) 1 rfl (by kernel_rfl) (by kernel_rfl) (by kernel_rfl) rfl rfl rfl rfl (gives_move rfl rfl) (fun _ _ => trivial) ?_
      refine TH.take (listed' := #[true, true, true, false, false, false, false, false, false, false, false, false, false, false, false, false, false, false, false, false]) 2 rfl (by kernel_rfl) (by kernel_rfl) (by kernel_rfl) rfl rfl rfl rfl (gives_move rfl rfl) (fun _ _ => trivial) ?_
      refine TH.take (listed' := #[true, true, true, true, false, false, false, false, false, false, false, false, false, false, false, false, false, false, false, false]) 3 rfl (by kernel_rfl) (by kernel_rfl) (by kernel_rfl) rfl rfl rfl rfl (gives_move rfl rfl) (fun _ _ => trivial) ?_
      refine TH.take (listed' := #[true, true, true, true, true, false, false, false, false, false, false, false, false, false, false, false, false, false, false, false]) 4 rfl (by kernel_rfl) (by kernel_rfl) (by kernel_rfl) rfl rfl rfl rfl (gives_move rfl rfl) (fun _ _ => trivial) ?_
      refine TH.take (listed' := #[true, true, true, true, true, true, false, false, false, false, false, false, false, false, false, false, false, false, false, false]) 5 rfl (by kernel_rfl) (by kernel_rfl) (by kernel_rfl) rfl rfl rfl rfl (gives_bin rfl rfl rfl (fun w => bin_add_ (r := ((a + (k - 1) : Nat) : Int)) (by simp only [IntKind.wrap_i64]; omega) w)) (fun _ _ => trivial) ?_
      refine TH.take (listed' := #[true, true, true, true, true, true, true, false, false, false, false, false, false, false, false, false, false, false, false, false]) 6 rfl (by kernel_rfl) (by kernel_rfl) (by kernel_rfl) rfl rfl rfl rfl (gives_move rfl rfl) (fun _ _ => trivial) ?_
      refine TH.take (listed' := #[true, true, true, true, true, true, true, true, false, false, false, false, false, false, false, false, false, false, false, false]) 7 rfl (by kernel_rfl) (by kernel_rfl) (by kernel_rfl) rfl rfl rfl rfl (gives_move rfl rfl) (fun _ _ => trivial) ?_
      refine TH.take (listed' := #[true, true, true, true, true, true, true, true, true, false, false, false, false, false, false, false, false, false, false, false]) 8 rfl (by kernel_rfl) (by kernel_rfl) (by kernel_rfl) rfl rfl rfl rfl (gives_move rfl rfl) (fun _ _ => trivial) ?_
      refine TH.take (listed' := #[true, true, true, true, true, true, true, true, true, true, false, false, false, false, false, false, false, false, false, false]) 9 rfl (by kernel_rfl) (by kernel_rfl) (by kernel_rfl) rfl rfl rfl rfl (gives_bin rfl rfl rfl (fun w => bin_add_ (r := ((a + (k - 1) : Nat) : Int)) (by simp only [IntKind.wrap_i64]; omega) w)) (fun _ _ => trivial) ?_
      refine TH.take (listed' := #[true, true, true, true, true, true, true, true, true, true, true, false, false, false, false, false, false, false, false, false]) 10 rfl (by kernel_rfl) (by kernel_rfl) (by kernel_rfl) rfl rfl rfl rfl (gives_at (v := .pointer (some ⟨g, a + (k - 1), none⟩)) rfl rfl rfl (fun w => at_row Try.underlying31 us2sz35 g _ _ (a + (k - 1)) (by omega) rfl w)) (fun _ _ => trivial) ?_
      refine TH.take (listed' := #[true, true, true, true, true, true, true, true, true, true, true, false, true, false, false, false, false, false, false, false]) 12 rfl (by kernel_rfl) (by kernel_rfl) (by kernel_rfl) rfl rfl rfl rfl (gives_move rfl rfl) (fun _ _ => trivial) ?_
      refine TH.take (listed' := #[true, true, true, true, true, true, true, true, true, true, true, false, true, true, false, false, false, false, false, false]) 13 rfl (by kernel_rfl) (by kernel_rfl) (by kernel_rfl) rfl rfl rfl rfl (gives_move rfl rfl) (fun _ _ => trivial) ?_
      refine TH.take (listed' := #[true, true, true, true, true, true, true, true, true, true, true, false, true, true, true, false, false, false, false, false]) 14 rfl (by kernel_rfl) (by kernel_rfl) (by kernel_rfl) rfl rfl rfl rfl (gives_at (v := .pointer (some ⟨g, a, none⟩)) rfl rfl rfl (fun w => at_row Try.underlying31 us2sz35 g _ _ a (by omega) rfl w)) (fun _ _ => trivial) ?_
      refine TH.two' (listed1 := #[true, true, true, true, true, true, true, true, true, true, true, true, true, true, true, false, false, false, false, false]) (listed2 := #[true, true, true, true, true, true, true, true, true, true, true, false, true, true, true, true, false, false, false, false]) 11 15 rfl rfl (by kernel_rfl) rfl rfl ?_ ?_
      · refine TL.val rfl rfl rfl (pm_loadU (k := 0) (i := a + (k - 1)) rfl rfl us2ag35 rfl (by omega)) ?_
        refine TL.end_ ?_
        refine TX.held (fun _ _ => trivial) ?_
        refine TH.only' (listed' := #[true, true, true, true, true, true, true, true, true, true, true, true, true, true, true, true, false, false, false, false]) 15 rfl (by kernel_rfl) rfl ?_
        refine TL.val rfl rfl rfl (pm_loadU (k := 0) (i := a) rfl rfl us2ag35 rfl (by omega)) ?_
        refine TL.end_ ?_
        refine TX.held (fun _ _ => trivial) ?_
        refine TH.take (listed' := #[true, true, true, true, true, true, true, true, true, true, true, true, true, true, true, true, true, false, false, false]) 16 rfl (by kernel_rfl) (by kernel_rfl) (by kernel_rfl) rfl rfl rfl rfl (gives_at (v := .pointer (some ⟨g, a, none⟩)) rfl rfl rfl (fun w => at_row Try.underlying31 us2sz35 g _ _ a (by omega) rfl w)) (fun _ _ => trivial) ?_
        refine TH.only' (listed' := #[true, true, true, true, true, true, true, true, true, true, true, true, true, true, true, true, true, true, false, false]) 17 rfl (by kernel_rfl) rfl ?_
        refine TL.uset (k := 0) (i := a) rfl rfl rfl rfl rfl rfl us2sz35 (by omega) ?_
        refine TL.end_ ?_
        refine TX.held (fun _ _ => trivial) ?_
        refine TH.take (listed' := #[true, true, true, true, true, true, true, true, true, true, true, true, true, true, true, true, true, true, true, false]) 18 rfl (by kernel_rfl) (by kernel_rfl) (by kernel_rfl) rfl rfl rfl rfl (gives_at (v := .pointer (some ⟨g, a + (k - 1), none⟩)) rfl rfl rfl (fun w => at_row Try.underlying31 us2sz35 g _ _ (a + (k - 1)) (by omega) rfl w)) (fun _ _ => trivial) ?_
        refine TH.only' (listed' := #[true, true, true, true, true, true, true, true, true, true, true, true, true, true, true, true, true, true, true, true]) 19 rfl (by kernel_rfl) rfl ?_
        refine TL.uset (k := 0) (i := a + (k - 1)) rfl rfl rfl rfl rfl rfl us2sz35 (by rw [List.length_set]; omega) ?_
        refine TL.end_ ?_
        refine TX.held (fun _ _ => trivial) ?_
        refine TH.done (by kernel_rfl) ?_
        refine TX.then_ ?_
        refine TC.region ?_
        refine TL.val rfl rfl rfl (gives_move rfl rfl) ?_
        refine TL.val rfl rfl rfl (gives_move rfl rfl) ?_
        refine TL.val rfl rfl rfl (gives_move rfl rfl) ?_
        refine TL.val rfl rfl rfl (gives_move rfl rfl) ?_
        refine TL.pcallRw (k := 0) (α := Unit) (fun _ => .tuple #[]) (fun _ zs => Pin a (a + (k - 1)) (swp ys a (a + (k - 1))) zs ∧ Hp a 0 (k - 1) zs) rfl rfl rfl rfl rfl Try.func73 us2nm73 us2bd73 rfl (fun w1 hw hr1 => sift_any g n c (swp ys a (a + (k - 1))) w1 hr1 hn 0 (k - 1) a (by omega) (by omega) (Hp.swap0 (by rw [show k - 1 + 1 = k by omega]; exact hH.heap) (by omega))) ?_
        rintro ⟨⟩ zs ⟨hQ, hH2⟩
        try dsimp only [List.set_cons_zero, List.set_cons_succ]
        have hlz : zs.length = n := by rw [hQ.len, swp_len]; exact hly
        have hP2 : Pin a b xs zs := (hP.swap (by omega) (by omega) (by omega) (by omega) (by omega)).trans (hQ.mono (Nat.le_refl _) (by omega))
        have hH3 : Hsr a (k - 1) (b - a) zs := Hsr.step (i := k - 1) (by rw [show k - 1 + 1 = k by omega]; exact hH) (by omega) (by omega) hQ hH2
        refine TL.end_ ?_
        refine TX.in_normal ?_
        refine TX.then_ ?_
        refine TC.region ?_
        refine TL.val rfl rfl rfl (gives_move rfl rfl) ?_
        refine TL.val rfl rfl rfl (gives_bin rfl rfl rfl (fun w => bin_sub_ (r := ((k - 1 : Nat) : Int) - 1) (by simp only [IntKind.wrap_i64]; omega) w)) ?_
        refine TL.val rfl rfl rfl (gives_assign rfl rfl) ?_
        refine TL.end_ ?_
        exact TX.round (⟨(k - 1, zs), by dsimp only; omega, hH3, hP2, hlz⟩) (by show k - 1 < k; omega) ⟨rfl, rfl, rfl, rfl, rfl, trivial⟩ (fun w1 hw => hw)
      · refine TL.val rfl rfl rfl (pm_loadU (k := 0) (i := a) rfl rfl us2ag35 rfl (by omega)) ?_
        refine TL.end_ ?_
        refine TX.held (fun _ _ => trivial) ?_
        refine TH.only' (listed' := #[true, true, true, true, true, true, true, true, true, true, true, true, true, true, true, true, false, false, false, false]) 11 rfl (by kernel_rfl) rfl ?_
        refine TL.val rfl rfl rfl (pm_loadU (k := 0) (i := a + (k - 1)) rfl rfl us2ag35 rfl (by omega)) ?_
        refine TL.end_ ?_
        refine TX.held (fun _ _ => trivial) ?_
        refine TH.take (listed' := #[true, true, true, true, true, true, true, true, true, true, true, true, true, true, true, true, true, false, false, false]) 16 rfl (by kernel_rfl) (by kernel_rfl) (by kernel_rfl) rfl rfl rfl rfl (gives_at (v := .pointer (some ⟨g, a, none⟩)) rfl rfl rfl (fun w => at_row Try.underlying31 us2sz35 g _ _ a (by omega) rfl w)) (fun _ _ => trivial) ?_
        refine TH.only' (listed' := #[true, true, true, true, true, true, true, true, true, true, true, true, true, true, true, true, true, true, false, false]) 17 rfl (by kernel_rfl) rfl ?_
        refine TL.uset (k := 0) (i := a) rfl rfl rfl rfl rfl rfl us2sz35 (by omega) ?_
        refine TL.end_ ?_
        refine TX.held (fun _ _ => trivial) ?_
        refine TH.take (listed' := #[true, true, true, true, true, true, true, true, true, true, true, true, true, true, true, true, true, true, true, false]) 18 rfl (by kernel_rfl) (by kernel_rfl) (by kernel_rfl) rfl rfl rfl rfl (gives_at (v := .pointer (some ⟨g, a + (k - 1), none⟩)) rfl rfl rfl (fun w => at_row Try.underlying31 us2sz35 g _ _ (a + (k - 1)) (by omega) rfl w)) (fun _ _ => trivial) ?_
        refine TH.only' (listed' := #[true, true, true, true, true, true, true, true, true, true, true, true, true, true, true, true, true, true, true, true]) 19 rfl (by kernel_rfl) rfl ?_
        refine TL.uset (k := 0) (i := a + (k - 1)) rfl rfl rfl rfl rfl rfl us2sz35 (by rw [List.length_set]; omega) ?_
        refine TL.end_ ?_
        refine TX.held (fun _ _ => trivial) ?_
        refine TH.done (by kernel_rfl) ?_
        refine TX.then_ ?_
        refine TC.region ?_
        refine TL.val rfl rfl rfl (gives_move rfl rfl) ?_
        refine TL.val rfl rfl rfl (gives_move rfl rfl) ?_
        refine TL.val rfl rfl rfl (gives_move rfl rfl) ?_
        refine TL.val rfl rfl rfl (gives_move rfl rfl) ?_
        refine TL.pcallRw (k := 0) (α := Unit) (fun _ => .tuple #[]) (fun _ zs => Pin a (a + (k - 1)) (swp ys a (a + (k - 1))) zs ∧ Hp a 0 (k - 1) zs) rfl rfl rfl rfl rfl Try.func73 us2nm73 us2bd73 rfl (fun w1 hw hr1 => sift_any g n c (swp ys a (a + (k - 1))) w1 hr1 hn 0 (k - 1) a (by omega) (by omega) (Hp.swap0 (by rw [show k - 1 + 1 = k by omega]; exact hH.heap) (by omega))) ?_
        rintro ⟨⟩ zs ⟨hQ, hH2⟩
        try dsimp only [List.set_cons_zero, List.set_cons_succ]
        have hlz : zs.length = n := by rw [hQ.len, swp_len]; exact hly
        have hP2 : Pin a b xs zs := (hP.swap (by omega) (by omega) (by omega) (by omega) (by omega)).trans (hQ.mono (Nat.le_refl _) (by omega))
        have hH3 : Hsr a (k - 1) (b - a) zs := Hsr.step (i := k - 1) (by rw [show k - 1 + 1 = k by omega]; exact hH) (by omega) (by omega) hQ hH2
        refine TL.end_ ?_
        refine TX.in_normal ?_
        refine TX.then_ ?_
        refine TC.region ?_
        refine TL.val rfl rfl rfl (gives_move rfl rfl) ?_
        refine TL.val rfl rfl rfl (gives_bin rfl rfl rfl (fun w => bin_sub_ (r := ((k - 1 : Nat) : Int) - 1) (by simp only [IntKind.wrap_i64]; omega) w)) ?_
        refine TL.val rfl rfl rfl (gives_assign rfl rfl) ?_
        refine TL.end_ ?_
        exact TX.round (⟨(k - 1, zs), by dsimp only; omega, hH3, hP2, hlz⟩) (by show k - 1 < k; omega) ⟨rfl, rfl, rfl, rfl, rfl, trivial⟩ (fun w1 hw => hw)
    · have q30 := of_decide_eq_false h30
      refine TL.end_ ?_
      refine TX.then_ ?_
      refine TC.condF rfl ?_
      refine TC.exit_ ?_
      refine TX.then_exit ?_
      refine TX.then_exit ?_
      refine TX.in_same ?_
      obtain rfl : k = 0 := by omega
      have hS : Srt a b ys := by have := hH.done; rwa [show a + (b - a) = b by omega] at this
      exact end_none Try.results63 (fun w1 hw => ⟨(), ys, rfl, ⟨hP, hS⟩, pm_rowAt hw (k := 0) rfl, hw.mapEnd (fun q hq => by simp [hq])⟩)
set_option maxHeartbeats 1000000 in
theorem rev_any (g n c : Nat) (xs : List Int) (w : World) (h : Rw 35 w g n c xs) (hn : n ≤ 1000000) (a b : Nat) (hab : a < b) (hb : b ≤ n) :
    Calls Try.prog 66 #[.slice (some ⟨g, 0, none⟩) n c, .int .i64 ((a : Nat) : Int), .int .i64 ((b : Nat) : Int)] w (RC (α := Unit) (fun _ => .tuple #[]) (fun _ ys => Pin a b xs ys) 35 g n c w) := by
  have hl := h.len
  refine begin_ (vs := [.slice (some ⟨g, 0, none⟩) n c, .int .i64 ((a : Nat) : Int), .int .i64 ((b : Nat) : Int)]) (I := Pm ⟨wbut w g, g⟩ (.row (.slice (some ⟨g, 0, none⟩) n c) 35 1 n (uv xs) :: oths g w)) Try.func66 rfl rfl rfl ?_ (Pm.rowStart h)
  refine TC.seq_ ?_
  refine TC.region ?_
  refine TL.val rfl rfl rfl (gives_move rfl rfl) ?_
  refine TL.val rfl rfl rfl (gives_assign rfl rfl) ?_
  refine TL.end_ ?_
  refine TX.then_ ?_
  refine TC.seq_ ?_
  refine TC.region ?_
  refine TL.val rfl rfl rfl (gives_move rfl rfl) ?_
  refine TL.val rfl rfl rfl (gives_bin rfl rfl rfl (fun w => bin_sub_ (r := ((b - 1 : Nat) : Int)) (by simp only [IntKind.wrap_i64]; omega) w)) ?_
  refine TL.val rfl rfl rfl (gives_assign rfl rfl) ?_
  refine TL.end_ ?_
  refine TX.then_ ?_
  refine TC.block ?_
  refine TC.loop_ (α := {y : Nat × Nat × List Int // a ≤ y.1 ∧ y.2.1 < b ∧ Pin a b xs y.2.2 ∧ y.2.2.length = n}) (fun y => [(0, .slice (some ⟨g, 0, none⟩) n c), (6, .int .i64 ((y.1.1 : Nat) : Int)), (7, .int .i64 ((y.1.2.1 : Nat) : Int))]) (fun y => Pm ⟨wbut w g, g⟩ ([.row (.slice (some ⟨g, 0, none⟩) n c) 35 1 n (uv y.1.2.2)] ++ oths g w)) (fun y => y.1.2.1) (⟨(a, b - 1, xs), Nat.le_refl _, by dsimp only; omega, Pin.refl _ _ _, hl⟩) ⟨rfl, rfl, rfl, trivial⟩ (fun w1 hw => hw) ?_
  rintro ⟨⟨i, j, ys⟩, hi, hj, hP, hly⟩
  dsimp only at hi hj hP hly ⊢
  refine TC.seq_ ?_
  refine TC.seq_ ?_
  refine TC.region ?_
  refine TL.val rfl rfl rfl (gives_move rfl rfl) ?_
  refine TL.val rfl rfl rfl (gives_move rfl rfl) ?_
  refine TL.vsplit rfl rfl rfl (gives_bin rfl rfl rfl (fun w => bin_lss w)) (fun h13 => ?_) (fun h13 => ?_)
  · have q13 := of_decide_eq_true h13
    refine TL.end_ ?_
    refine TX.then_ ?_
    refine TC.condT rfl ?_
    refine TC.skip_ ?_
    refine TX.then_ ?_
    refine TC.block ?_
    refine TC.seq_ ?_
    refine TC.held (ls := #[false, false, false, false, false, false, false, false, false, false, false, false, false, false, false, false]) (fun _ => True) (by kernel_rfl) rfl rfl (fun w hw => hw.drawn _) ?_
    refine TH.take (listed' := #[true, false, false, false, false, false, false, false, false, false, false, false, false, false, false, false]) 0 rfl (by kernel_rfl) (by kernel_rfl) (by kernel_rfl) rfl rfl rfl rfl (gives_move rfl rfl) (fun _ _ => trivial) ?_
    refine TH.take (listed' := #[true, true, false, false, false, false, false, false, false, false, false, false, false, false, false, false]) 1 rfl (by kernel_rfl) (by kernel_rfl) (by kernel_rfl) rfl rfl rfl rfl (gives_move rfl rfl) (fun _ _ => trivial) ?_
    refine TH.take (listed' := #[true, true, true, false, false, false, false, false, false, false, false, false, false, false, false, false]) 2 rfl (by kernel_rfl) (by kernel_rfl) (by kernel_rfl) rfl rfl rfl rfl (gives_move rfl rfl) (fun _ _ => trivial) ?_
    refine TH.take (listed' := #[true, true, true, true, false, false, false, false, false, false, false, false, false, false, false, false]) 3 rfl (by kernel_rfl) (by kernel_rfl) (by kernel_rfl) rfl rfl rfl rfl (gives_move rfl rfl) (fun _ _ => trivial) ?_
    refine TH.take (listed' := #[true, true, true, true, true, false, false, false, false, false, false, false, false, false, false, false]) 4 rfl (by kernel_rfl) (by kernel_rfl) (by kernel_rfl) rfl rfl rfl rfl (gives_move rfl rfl) (fun _ _ => trivial) ?_
    refine TH.take (listed' := #[true, true, true, true, true, true, false, false, false, false, false, false, false, false, false, false]) 5 rfl (by kernel_rfl) (by kernel_rfl) (by kernel_rfl) rfl rfl rfl rfl (gives_move rfl rfl) (fun _ _ => trivial) ?_
    refine TH.take (listed' := #[true, true, true, true, true, true, true, false, false, false, false, false, false, false, false, false]) 6 rfl (by kernel_rfl) (by kernel_rfl) (by kernel_rfl) rfl rfl rfl rfl (gives_at (v := .pointer (some ⟨g, j, none⟩)) rfl rfl rfl (fun w => at_row Try.underlying31 us2sz35 g _ _ j (by omega) rfl w)) (fun _ _ => trivial) ?_
    refine TH.take (listed' := #[true, true, true, true, true, true, true, false, true, false, false, false, false, false, false, false]) 8 rfl (by kernel_rfl) (by kernel_rfl) (by kernel_rfl) rfl rfl rfl rfl (gives_move rfl rfl) (fun _ _ => trivial) ?_
    refine TH.take (listed' := #[true, true, true, true, true, true, true, false, true, true, false, false, false, false, false, false]) 9 rfl (by kernel_rfl) (by kernel_rfl) (by kernel_rfl) rfl rfl rfl rfl (gives_move rfl rfl) (fun _ _ => trivial) ?_
    refine TH.take (listed' := #[true, true, true, true, true, true, true, false, true, true, true, false, false, false, false, false]) 10 rfl (by kernel_rfl) (by kernel_rfl) (by kernel_rfl) rfl rfl rfl rfl (gives_at (v := .pointer (some ⟨g, i, none⟩)) rfl rfl rfl (fun w => at_row Try.underlying31 us2sz35 g _ _ i (by omega) rfl w)) (fun _ _ => trivial) ?_
    refine TH.two' (listed1 := #[true, true, true, true, true, true, true, true, true, true, true, false, false, false, false, false]) (listed2 := #[true, true, true, true, true, true, true, false, true, true, true, true, false, false, false, false]) 7 11 rfl rfl (by kernel_rfl) rfl rfl ?_ ?_
    · refine TL.val rfl rfl rfl (pm_loadU (k := 0) (i := j) rfl rfl us2ag35 rfl (by omega)) ?_
      refine TL.end_ ?_
      refine TX.held (fun _ _ => trivial) ?_
      refine TH.only' (listed' := #[true, true, true, true, true, true, true, true, true, true, true, true, false, false, false, false]) 11 rfl (by kernel_rfl) rfl ?_
      refine TL.val rfl rfl rfl (pm_loadU (k := 0) (i := i) rfl rfl us2ag35 rfl (by omega)) ?_
      refine TL.end_ ?_
      refine TX.held (fun _ _ => trivial) ?_
      refine TH.take (listed' := #[true, true, true, true, true, true, true, true, true, true, true, true, true, false, false, false]) 12 rfl (by kernel_rfl) (by kernel_rfl) (by kernel_rfl) rfl rfl rfl rfl (gives_at (v := .pointer (some ⟨g, i, none⟩)) rfl rfl rfl (fun w => at_row Try.underlying31 us2sz35 g _ _ i (by omega) rfl w)) (fun _ _ => trivial) ?_
      refine TH.only' (listed' := #[true, true, true, true, true, true, true, true, true, true, true, true, true, true, false, false]) 13 rfl (by kernel_rfl) rfl ?_
      refine TL.uset (k := 0) (i := i) rfl rfl rfl rfl rfl rfl us2sz35 (by omega) ?_
      refine TL.end_ ?_
      refine TX.held (fun _ _ => trivial) ?_
      refine TH.take (listed' := #[true, true, true, true, true, true, true, true, true, true, true, true, true, true, true, false]) 14 rfl (by kernel_rfl) (by kernel_rfl) (by kernel_rfl) rfl rfl rfl rfl (gives_at (v := .pointer (some ⟨g, j, none⟩)) rfl rfl rfl (fun w => at_row Try.underlying31 us2sz35 g _ _ j (by omega) rfl w)) (fun _ _ => trivial) ?_
      refine TH.only' (listed' := #[true, true, true, true, true, true, true, true, true, true, true, true, true, true, true, true]) 15 rfl (by kernel_rfl) rfl ?_
      refine TL.uset (k := 0) (i := j) rfl rfl rfl rfl rfl rfl us2sz35 (by rw [List.length_set]; omega) ?_
      refine TL.end_ ?_
      refine TX.held (fun _ _ => trivial) ?_
      refine TH.done (by kernel_rfl) ?_
      refine TX.then_ ?_
      refine TC.seq_ ?_
      refine TC.region ?_
      refine TL.val rfl rfl rfl (gives_move rfl rfl) ?_
      refine TL.val rfl rfl rfl (gives_bin rfl rfl rfl (fun w => bin_add_ (r := ((i + 1 : Nat) : Int)) (by simp only [IntKind.wrap_i64]; omega) w)) ?_
      refine TL.val rfl rfl rfl (gives_assign rfl rfl) ?_
      refine TL.end_ ?_
      refine TX.then_ ?_
      refine TC.region ?_
      refine TL.val rfl rfl rfl (gives_move rfl rfl) ?_
      refine TL.val rfl rfl rfl (gives_bin rfl rfl rfl (fun w => bin_sub_ (r := ((j - 1 : Nat) : Int)) (by simp only [IntKind.wrap_i64]; omega) w)) ?_
      refine TL.val rfl rfl rfl (gives_assign rfl rfl) ?_
      refine TL.end_ ?_
      refine TX.in_normal ?_
      exact TX.round (⟨(i + 1, j - 1, swp ys i j), by dsimp only; omega, by dsimp only; omega, hP.swap (by omega) (by omega) (by omega) (by omega) (by omega), by rw [swp_len]; exact hly⟩) (by show j - 1 < j; omega) ⟨rfl, rfl, rfl, trivial⟩ (fun w1 hw => hw)
    · refine TL.val rfl rfl rfl (pm_loadU (k := 0) (i := i) rfl rfl us2ag35 rfl (by omega)) ?_
      refine TL.end_ ?_
      refine TX.held (fun _ _ => trivial) ?_
      refine TH.only' (listed' := #[true, true, true, true, true, true, true, true, true, true, true, true, false, false, false, false]) 7 rfl (by kernel_rfl) rfl ?_
      refine TL.val rfl rfl rfl (pm_loadU (k := 0) (i := j) rfl rfl us2ag35 rfl (by omega)) ?_
      refine TL.end_ ?_
      refine TX.held (fun _ _ => trivial) ?_
      refine TH.take (listed' := #[true, true, true, true, true, true, true, true, true, true, true, true, true, false, false, false]) 12 rfl (by kernel_rfl) (by kernel_rfl) (by kernel_rfl) rfl rfl rfl rfl (gives_at (v := .pointer (some ⟨g, i, none⟩)) rfl rfl rfl (fun w => at_row Try.underlying31 us2sz35 g _ _ i (by omega) rfl w)) (fun _ _ => trivial) ?_
      refine TH.only' (listed' := #[true, true, true, true, true, true, true, true, true, true, true, true, true, true, false, false]) 13 rfl (by kernel_rfl) rfl ?_
      refine TL.uset (k := 0) (i := i) rfl rfl rfl rfl rfl rfl us2sz35 (by omega) ?_
      refine TL.end_ ?_
      refine TX.held (fun _ _ => trivial) ?_
      refine TH.take (listed' := #[true, true, true, true, true, true, true, true, true, true, true, true, true, true, true, false]) 14 rfl (by kernel_rfl) (by kernel_rfl) (by kernel_rfl) rfl rfl rfl rfl (gives_at (v := .pointer (some ⟨g, j, none⟩)) rfl rfl rfl (fun w => at_row Try.underlying31 us2sz35 g _ _ j (by omega) rfl w)) (fun _ _ => trivial) ?_
      refine TH.only' (listed' := #[true, true, true, true, true, true, true, true, true, true, true, true, true, true, true, true]) 15 rfl (by kernel_rfl) rfl ?_
      refine TL.uset (k := 0) (i := j) rfl rfl rfl rfl rfl rfl us2sz35 (by rw [List.length_set]; omega) ?_
      refine TL.end_ ?_
      refine TX.held (fun _ _ => trivial) ?_
      refine TH.done (by kernel_rfl) ?_
      refine TX.then_ ?_
      refine TC.seq_ ?_
      refine TC.region ?_
      refine TL.val rfl rfl rfl (gives_move rfl rfl) ?_
      refine TL.val rfl rfl rfl (gives_bin rfl rfl rfl (fun w => bin_add_ (r := ((i + 1 : Nat) : Int)) (by simp only [IntKind.wrap_i64]; omega) w)) ?_
      refine TL.val rfl rfl rfl (gives_assign rfl rfl) ?_
      refine TL.end_ ?_
      refine TX.then_ ?_
      refine TC.region ?_
      refine TL.val rfl rfl rfl (gives_move rfl rfl) ?_
      refine TL.val rfl rfl rfl (gives_bin rfl rfl rfl (fun w => bin_sub_ (r := ((j - 1 : Nat) : Int)) (by simp only [IntKind.wrap_i64]; omega) w)) ?_
      refine TL.val rfl rfl rfl (gives_assign rfl rfl) ?_
      refine TL.end_ ?_
      refine TX.in_normal ?_
      exact TX.round (⟨(i + 1, j - 1, swp ys i j), by dsimp only; omega, by dsimp only; omega, hP.swap (by omega) (by omega) (by omega) (by omega) (by omega), by rw [swp_len]; exact hly⟩) (by show j - 1 < j; omega) ⟨rfl, rfl, rfl, trivial⟩ (fun w1 hw => hw)
  · have q13 := of_decide_eq_false h13
    refine TL.end_ ?_
    refine TX.then_ ?_
    refine TC.condF rfl ?_
    refine TC.exit_ ?_
    refine TX.then_exit ?_
    refine TX.then_exit ?_
    refine TX.in_same ?_
    exact end_none Try.results66 (fun w1 hw => ⟨(), ys, rfl, hP, pm_rowAt hw (k := 0) rfl, hw.mapEnd (fun q hq => by simp [hq])⟩)
end Go.Proofs.Ytleckflmckbheaa

namespace Go.Proofs.Ytleckflmckbheaa
open Go.RowKit
set_option linter.unusedVariables false
set_option linter.unusedSimpArgs false
set_option maxRecDepth 20000
theorem us3sz35 (w : World) : (sizeOf 35).run Try.prog w = .ok 1 w := rfl
theorem us3ag35 (w : World) : (isAgg 35).run Try.prog w = .ok false w := rfl
theorem us3nm68 : (Try.f68.name == "runtime.NumGoroutine") = false := by decide
theorem us3bd68 : Try.f68.body.isNone = false := rfl
set_option maxHeartbeats 1000000 in
theorem pis_any (g n c : Nat) (xs : List Int) (w : World) (h : Rw 35 w g n c xs) (hn : n ≤ 1000000) (a b : Nat) (hab : a < b) (hb : b ≤ n) (hL : Low a b xs) :
    Calls Try.prog 67 #[.slice (some ⟨g, 0, none⟩) n c, .int .i64 ((a : Nat) : Int), .int .i64 ((b : Nat) : Int)] w (RC (α := Bool) (fun x => .bool x) (fun x ys => Pin a b xs ys ∧ (x = true → Srt a b ys)) 35 g n c w) := by
  have hl := h.len
  refine begin_ (vs := [.slice (some ⟨g, 0, none⟩) n c, .int .i64 ((a : Nat) : Int), .int .i64 ((b : Nat) : Int)]) (I := Pm ⟨wbut w g, g⟩ (.row (.slice (some ⟨g, 0, none⟩) n c) 35 1 n (uv xs) :: oths g w)) Try.func67 rfl rfl rfl ?_ (Pm.rowStart h)
  refine TC.seq_ ?_
  refine TC.region ?_
  refine TL.val rfl rfl rfl (gives_assign rfl rfl) ?_
  refine TL.end_ ?_
  refine TX.then_ ?_
  refine TC.seq_ ?_
  refine TC.region ?_
  refine TL.val rfl rfl rfl (gives_move rfl rfl) ?_
  refine TL.val rfl rfl rfl (gives_bin rfl rfl rfl (fun w => bin_add_ (r := ((a + 1 : Nat) : Int)) (by simp only [IntKind.wrap_i64]; omega) w)) ?_
  refine TL.val rfl rfl rfl (gives_assign rfl rfl) ?_
  refine TL.end_ ?_
  refine TX.then_ ?_
  refine TC.seq_ ?_
  refine TC.seq_ ?_
  refine TC.region ?_
  refine TL.val rfl rfl rfl (gives_assign rfl rfl) ?_
  refine TL.end_ ?_
  refine TX.then_ ?_
  refine TC.block ?_
  refine TC.loop_ (α := {y : Nat × Nat × List Int // y.1 ≤ 5 ∧ a < y.2.1 ∧ y.2.1 ≤ b ∧ Pin a b xs y.2.2 ∧ Srt a y.2.1 y.2.2 ∧ y.2.2.length = n}) (fun y => [(0, .slice (some ⟨g, 0, none⟩) n c), (1, .int .i64 ((a : Nat) : Int)), (2, .int .i64 ((b : Nat) : Int)), (7, .int .i64 ((y.1.2.1 : Nat) : Int)), (8, .int .i64 ((y.1.1 : Nat) : Int))]) (fun y => Pm ⟨wbut w g, g⟩ ([.row (.slice (some ⟨g, 0, none⟩) n c) 35 1 n (uv y.1.2.2)] ++ oths g w)) (fun y => 5 - y.1.1) (⟨(0, a + 1, xs), by dsimp only; omega, by dsimp only; omega, by dsimp only; omega, Pin.refl _ _ _, Srt.one (Nat.le_refl _), hl⟩) ⟨rfl, rfl, rfl, rfl, rfl, trivial⟩ (fun w1 hw => hw) ?_
  rintro ⟨⟨t, i0, ys⟩, ht, hi1, hi2, hP, hS0, hly⟩
  dsimp only at ht hi1 hi2 hP hS0 hly ⊢
  refine TC.seq_ ?_
  refine TC.seq_ ?_
  refine TC.region ?_
  refine TL.val rfl rfl rfl (gives_move rfl rfl) ?_
  refine TL.vsplit rfl rfl rfl (gives_bin rfl rfl rfl (fun w => bin_lss w)) (fun h14 => ?_) (fun h14 => ?_)
  · have q14 := of_decide_eq_true h14
    refine TL.end_ ?_
    refine TX.then_ ?_
    refine TC.condT rfl ?_
    refine TC.skip_ ?_
    refine TX.then_ ?_
    refine TC.seq_ ?_
    refine TC.block ?_
    refine TC.seq_ ?_
    refine TC.block ?_
    refine TC.loop_ (α := {y : Nat // a < y ∧ y ≤ b ∧ Srt a y ys}) (fun y => [(0, .slice (some ⟨g, 0, none⟩) n c), (1, .int .i64 ((a : Nat) : Int)), (2, .int .i64 ((b : Nat) : Int)), (7, .int .i64 ((y.1 : Nat) : Int)), (8, .int .i64 ((t : Nat) : Int))]) (fun y => Pm ⟨wbut w g, g⟩ ([.row (.slice (some ⟨g, 0, none⟩) n c) 35 1 n (uv ys)] ++ oths g w)) (fun y => b - y.1) (⟨i0, hi1, hi2, hS0⟩) ⟨rfl, rfl, rfl, rfl, rfl, trivial⟩ (fun w1 hw => hw) ?_
    rintro ⟨i, hi3, hi4, hS⟩
    try dsimp only
    refine TC.seq_ ?_
    refine TC.seq_ ?_
    have hway : ¬ i < b ∨ (i < b ∧ dx ys i < dx ys (i - 1)) ∨ (i < b ∧ ¬ dx ys i < dx ys (i - 1)) := by omega
    rcases hway with p1 | ⟨p1, p2⟩ | ⟨p1, p2⟩
    · refine TC.quiet_ (E' := ?_) (by kernel_rfl) (by kernel_rfl) (fun w hw => hw.drawn _) ?_ ?_
      rotate_left
      · refine TQ.val rfl rfl rfl (gives_move rfl rfl) ?_
        refine TQ.val rfl rfl rfl (gives_move rfl rfl) ?_
        refine TQ.val rfl rfl rfl (gives_bin rfl rfl rfl (fun w => bin_lss_f (by omega) w)) ?_
        refine TQ.val rfl rfl rfl (gives_move rfl rfl) ?_
        refine TQ.off rfl rfl rfl rfl rfl rfl ?_
        refine TQ.off rfl rfl rfl rfl rfl rfl ?_
        refine TQ.off rfl rfl rfl rfl rfl rfl ?_
        refine TQ.off rfl rfl rfl rfl rfl rfl ?_
        refine TQ.off rfl rfl rfl rfl rfl rfl ?_
        refine TQ.off rfl rfl rfl rfl rfl rfl ?_
        refine TQ.off rfl rfl rfl rfl rfl rfl ?_
        refine TQ.off rfl rfl rfl rfl rfl rfl ?_
        refine TQ.off rfl rfl rfl rfl rfl rfl ?_
        refine TQ.off rfl rfl rfl rfl rfl rfl ?_
        refine TQ.off rfl rfl rfl rfl rfl rfl ?_
        refine TQ.val rfl rfl rfl (gives_pick rfl rfl rfl) ?_
        exact TQ.end_
      refine TX.then_ ?_
      refine TC.condF rfl ?_
      refine TC.exit_ ?_
      refine TX.then_exit ?_
      refine TX.then_exit ?_
      refine TX.in_same ?_
      refine TX.then_ ?_
      refine TC.seq_ ?_
      refine TC.seq_ ?_
      refine TC.region ?_
      refine TL.val rfl rfl rfl (gives_move rfl rfl) ?_
      refine TL.val rfl rfl rfl (gives_move rfl rfl) ?_
      refine TL.val rfl rfl rfl (gives_bin rfl rfl rfl (fun w => bin_eql_t (by omega) w)) ?_
      refine TL.end_ ?_
      refine TX.then_ ?_
      refine TC.condT rfl ?_
      refine TC.seq_ ?_
      refine TC.region ?_
      refine TL.val rfl rfl rfl (gives_assign rfl rfl) ?_
      refine TL.end_ ?_
      refine TX.then_ ?_
      refine TC.ret_ ?_
      refine TX.then_ret ?_
      refine TX.in_ret ?_
      refine TX.then_ret ?_
      refine TX.then_ret ?_
      refine TX.in_ret ?_
      refine TX.then_ret ?_
      exact ret_tmp Try.results67 rfl (fun w1 hw => ⟨true, ys, rfl, ⟨hP, fun _ => hS.less (by omega)⟩, pm_rowAt hw (k := 0) rfl, hw.mapEnd (fun q hq => by simp [hq])⟩)
    · refine TC.quiet_ (E' := ?_) (by kernel_rfl) (by kernel_rfl) (fun w hw => hw.drawn _) ?_ ?_
      rotate_left
      · refine TQ.val rfl rfl rfl (gives_move rfl rfl) ?_
        refine TQ.val rfl rfl rfl (gives_move rfl rfl) ?_
        refine TQ.val rfl rfl rfl (gives_bin rfl rfl rfl (fun w => bin_lss_t (by omega) w)) ?_
        refine TQ.val rfl rfl rfl (gives_move rfl rfl) ?_
        refine TQ.on rfl rfl rfl ?_
        refine TQ.val rfl rfl rfl (gives_move rfl rfl) ?_
        refine TQ.on rfl rfl rfl ?_
        refine TQ.val rfl rfl rfl (gives_move rfl rfl) ?_
        refine TQ.on rfl rfl rfl ?_
        refine TQ.val rfl rfl rfl (gives_at (v := .pointer (some ⟨g, i, none⟩)) rfl rfl rfl (fun w => at_row Try.underlying31 us3sz35 g _ _ i (by omega) rfl w)) ?_
        refine TQ.on rfl rfl rfl ?_
        refine TQ.val rfl rfl rfl (pm_loadU (k := 0) (i := i) rfl rfl us3ag35 rfl (by omega)) ?_
        refine TQ.on rfl rfl rfl ?_
        refine TQ.val rfl rfl rfl (gives_move rfl rfl) ?_
        refine TQ.on rfl rfl rfl ?_
        refine TQ.val rfl rfl rfl (gives_move rfl rfl) ?_
        refine TQ.on rfl rfl rfl ?_
        refine TQ.val rfl rfl rfl (gives_bin rfl rfl rfl (fun w => bin_sub_ (r := ((i - 1 : Nat) : Int)) (by simp only [IntKind.wrap_i64]; omega) w)) ?_
        refine TQ.on rfl rfl rfl ?_
        refine TQ.val rfl rfl rfl (gives_at (v := .pointer (some ⟨g, i - 1, none⟩)) rfl rfl rfl (fun w => at_row Try.underlying31 us3sz35 g _ _ (i - 1) (by omega) rfl w)) ?_
        refine TQ.on rfl rfl rfl ?_
        refine TQ.val rfl rfl rfl (pm_loadU (k := 0) (i := i - 1) rfl rfl us3ag35 rfl (by omega)) ?_
        refine TQ.on rfl rfl rfl ?_
        refine TQ.call (v := .bool true) rfl rfl rfl rfl rfl Try.func68 us3nm68 us3bd68 (fun w1 hw => (less_t _ _ p2 w1).mono fun en w2 ⟨h1, h2⟩ => ⟨h1, hw.below h2⟩) ?_
        refine TQ.on rfl rfl rfl ?_
        refine TQ.val rfl rfl rfl (gives_boolnot rfl rfl) ?_
        refine TQ.val rfl rfl rfl (gives_pick rfl rfl rfl) ?_
        exact TQ.end_
      refine TX.then_ ?_
      refine TC.condF rfl ?_
      refine TC.exit_ ?_
      refine TX.then_exit ?_
      refine TX.then_exit ?_
      refine TX.in_same ?_
      refine TX.then_ ?_
      refine TC.seq_ ?_
      refine TC.seq_ ?_
      refine TC.region ?_
      refine TL.val rfl rfl rfl (gives_move rfl rfl) ?_
      refine TL.val rfl rfl rfl (gives_move rfl rfl) ?_
      refine TL.val rfl rfl rfl (gives_bin rfl rfl rfl (fun w => bin_eql_f (by omega) w)) ?_
      refine TL.end_ ?_
      refine TX.then_ ?_
      refine TC.condF rfl ?_
      refine TC.skip_ ?_
      refine TX.then_ ?_
      refine TC.seq_ ?_
      refine TC.seq_ ?_
      refine TC.region ?_
      refine TL.val rfl rfl rfl (gives_move rfl rfl) ?_
      refine TL.val rfl rfl rfl (gives_move rfl rfl) ?_
      refine TL.val rfl rfl rfl (gives_bin rfl rfl rfl (fun w => bin_sub_ (r := ((b - a : Nat) : Int)) (by simp only [IntKind.wrap_i64]; omega) w)) ?_
      refine TL.vsplit rfl rfl rfl (gives_bin rfl rfl rfl (fun w => bin_lss w)) (fun h41 => ?_) (fun h41 => ?_)
      · have q41 := of_decide_eq_true h41
        refine TL.end_ ?_
        refine TX.then_ ?_
        refine TC.condT rfl ?_
        refine TC.seq_ ?_
        refine TC.region ?_
        refine TL.val rfl rfl rfl (gives_assign rfl rfl) ?_
        refine TL.end_ ?_
        refine TX.then_ ?_
        refine TC.ret_ ?_
        refine TX.then_ret ?_
        refine TX.in_ret ?_
        refine TX.then_ret ?_
        refine TX.then_ret ?_
        refine TX.in_ret ?_
        refine TX.then_ret ?_
        exact ret_tmp Try.results67 rfl (fun w1 hw => ⟨false, ys, rfl, ⟨hP, fun e => by cases e⟩, pm_rowAt hw (k := 0) rfl, hw.mapEnd (fun q hq => by simp [hq])⟩)
      · have q41 := of_decide_eq_false h41
        refine TL.end_ ?_
        refine TX.then_ ?_
        refine TC.condF rfl ?_
        refine TC.skip_ ?_
        refine TX.then_ ?_
        refine TC.join (α := Unit) (fun y => [(0, .slice (some ⟨g, 0, none⟩) n c), (1, .int .i64 ((a : Nat) : Int)), (2, .int .i64 ((b : Nat) : Int)), (7, .int .i64 ((i : Nat) : Int)), (8, .int .i64 ((t : Nat) : Int))]) (fun y => Pm ⟨wbut w g, g⟩ ([.row (.slice (some ⟨g, 0, none⟩) n c) 35 1 n (uv (swp ys i (i - 1)))] ++ oths g w)) ?_ ?_
        · refine TC.held (ls := #[false, false, false, false, false, false, false, false, false, false, false, false, false, false, false, false, false, false]) (fun _ => True) (by kernel_rfl) rfl rfl (fun w hw => hw.drawn _) ?_
          refine TH.take (listed' := #[true, false, false, false, false, false, false, false, false, false, false, false, false, false, false, false, false, false]) 0 rfl (by kernel_rfl) (by kernel_rfl) (by kernel_rfl) rfl rfl rfl rfl (gives_move rfl rfl) (fun _ _ => trivial) ?_
          refine TH.take (listed' := #[true, true, false, false, false, false, false, false, false, false, false, false, false, false, false, false, false, false]) 1 rfl (by kernel_rfl) (by kernel_rfl) (by kernel_rfl) rfl rfl rfl rfl (gives_move rfl rfl) (fun _ _ => trivial) ?_
          refine TH.take (listed' := #[true, true, true, false, false, false, false, false, false, false, false, false, false, false, false, false, false, false]) 2 rfl (by kernel_rfl) (by kernel_rfl) (by kernel_rfl) rfl rfl rfl rfl (gives_move rfl rfl) (fun _ _ => trivial) ?_
          refine TH.take (listed' := #[true, true, true, true, false, false, false, false, false, false, false, false, false, false, false, false, false, false]) 3 rfl (by kernel_rfl) (by kernel_rfl) (by kernel_rfl) rfl rfl rfl rfl (gives_move rfl rfl) (fun _ _ => trivial) ?_
          refine TH.take (listed' := #[true, true, true, true, true, false, false, false, false, false, false, false, false, false, false, false, false, false]) 4 rfl (by kernel_rfl) (by kernel_rfl) (by kernel_rfl) rfl rfl rfl rfl (gives_bin rfl rfl rfl (fun w => bin_sub_ (r := ((i - 1 : Nat) : Int)) (by simp only [IntKind.wrap_i64]; omega) w)) (fun _ _ => trivial) ?_
          refine TH.take (listed' := #[true, true, true, true, true, true, false, false, false, false, false, false, false, false, false, false, false, false]) 5 rfl (by kernel_rfl) (by kernel_rfl) (by kernel_rfl) rfl rfl rfl rfl (gives_move rfl rfl) (fun _ _ => trivial) ?_
          refine TH.take (listed' := #[true, true, true, true, true, true, true, false, false, false, false, false, false, false, false, false, false, false]) 6 rfl (by kernel_rfl) (by kernel_rfl) (by kernel_rfl) rfl rfl rfl rfl (gives_move rfl rfl) (fun _ _ => trivial) ?_
          refine TH.take (listed' := #[true, true, true, true, true, true, true, true, false, false, false, false, false, false, false, false, false, false]) 7 rfl (by kernel_rfl) (by kernel_rfl) (by kernel_rfl) rfl rfl rfl rfl (gives_bin rfl rfl rfl (fun w => bin_sub_ (r := ((i - 1 : Nat) : Int)) (by simp only [IntKind.wrap_i64]; omega) w)) (fun _ _ => trivial) ?_
          refine TH.take (listed' := #[true, true, true, true, true, true, true, true, true, false, false, false, false, false, false, false, false, false]) 8 rfl (by kernel_rfl) (by kernel_rfl) (by kernel_rfl) rfl rfl rfl rfl (gives_at (v := .pointer (some ⟨g, i - 1, none⟩)) rfl rfl rfl (fun w => at_row Try.underlying31 us3sz35 g _ _ (i - 1) (by omega) rfl w)) (fun _ _ => trivial) ?_
          refine TH.take (listed' := #[true, true, true, true, true, true, true, true, true, false, true, false, false, false, false, false, false, false]) 10 rfl (by kernel_rfl) (by kernel_rfl) (by kernel_rfl) rfl rfl rfl rfl (gives_move rfl rfl) (fun _ _ => trivial) ?_
          refine TH.take (listed' := #[true, true, true, true, true, true, true, true, true, false, true, true, false, false, false, false, false, false]) 11 rfl (by kernel_rfl) (by kernel_rfl) (by kernel_rfl) rfl rfl rfl rfl (gives_move rfl rfl) (fun _ _ => trivial) ?_
          refine TH.take (listed' := #[true, true, true, true, true, true, true, true, true, false, true, true, true, false, false, false, false, false]) 12 rfl (by kernel_rfl) (by kernel_rfl) (by kernel_rfl) rfl rfl rfl rfl (gives_at (v := .pointer (some ⟨g, i, none⟩)) rfl rfl rfl (fun w => at_row Try.underlying31 us3sz35 g _ _ i (by omega) rfl w)) (fun _ _ => trivial) ?_
          refine TH.two' (listed1 := #[true, true, true, true, true, true, true, true, true, true, true, true, true, false, false, false, false, false]) (listed2 := #[true, true, true, true, true, true, true, true, true, false, true, true, true, true, false, false, false, false]) 9 13 rfl rfl (by kernel_rfl) rfl rfl ?_ ?_
          · refine TL.val rfl rfl rfl (pm_loadU (k := 0) (i := i - 1) rfl rfl us3ag35 rfl (by omega)) ?_
            refine TL.end_ ?_
            refine TX.held (fun _ _ => trivial) ?_
            refine TH.only' (listed' := #[true, true, true, true, true, true, true, true, true, true, true, true, true, true, false, false, false, false]) 13 rfl (by kernel_rfl) rfl ?_
            refine TL.val rfl rfl rfl (pm_loadU (k := 0) (i := i) rfl rfl us3ag35 rfl (by omega)) ?_
            refine TL.end_ ?_
            refine TX.held (fun _ _ => trivial) ?_
            refine TH.take (listed' := #[true, true, true, true, true, true, true, true, true, true, true, true, true, true, true, false, false, false]) 14 rfl (by kernel_rfl) (by kernel_rfl) (by kernel_rfl) rfl rfl rfl rfl (gives_at (v := .pointer (some ⟨g, i, none⟩)) rfl rfl rfl (fun w => at_row Try.underlying31 us3sz35 g _ _ i (by omega) rfl w)) (fun _ _ => trivial) ?_
            refine TH.only' (listed' := #[true, true, true, true, true, true, true, true, true, true, true, true, true, true, true, true, false, false]) 15 rfl (by kernel_rfl) rfl ?_
            refine TL.uset (k := 0) (i := i) rfl rfl rfl rfl rfl rfl us3sz35 (by omega) ?_
            refine TL.end_ ?_
            refine TX.held (fun _ _ => trivial) ?_
            refine TH.take (listed' := #[true, true, true, true, true, true, true, true, true, true, true, true, true, true, true, true, true, false]) 16 rfl (by kernel_rfl) (by kernel_rfl) (by kernel_rfl) rfl rfl rfl rfl (gives_at (v := .pointer (some ⟨g, i - 1, none⟩)) rfl rfl rfl (fun w => at_row Try.underlying31 us3sz35 g _ _ (i - 1) (by omega) rfl w)) (fun _ _ => trivial) ?_
            refine TH.only' (listed' := #[true, true, true, true, true, true, true, true, true, true, true, true, true, true, true, true, true, true]) 17 rfl (by kernel_rfl) rfl ?_
            refine TL.uset (k := 0) (i := i - 1) rfl rfl rfl rfl rfl rfl us3sz35 (by rw [List.length_set]; omega) ?_
            refine TL.end_ ?_
            refine TX.held (fun _ _ => trivial) ?_
            refine TH.done (by kernel_rfl) ?_
            exact TX.joined (()) (⟨rfl, rfl, rfl, rfl, rfl, trivial⟩) (fun w1 hw => hw)
          · refine TL.val rfl rfl rfl (pm_loadU (k := 0) (i := i) rfl rfl us3ag35 rfl (by omega)) ?_
            refine TL.end_ ?_
            refine TX.held (fun _ _ => trivial) ?_
            refine TH.only' (listed' := #[true, true, true, true, true, true, true, true, true, true, true, true, true, true, false, false, false, false]) 9 rfl (by kernel_rfl) rfl ?_
            refine TL.val rfl rfl rfl (pm_loadU (k := 0) (i := i - 1) rfl rfl us3ag35 rfl (by omega)) ?_
            refine TL.end_ ?_
            refine TX.held (fun _ _ => trivial) ?_
            refine TH.take (listed' := #[true, true, true, true, true, true, true, true, true, true, true, true, true, true, true, false, false, false]) 14 rfl (by kernel_rfl) (by kernel_rfl) (by kernel_rfl) rfl rfl rfl rfl (gives_at (v := .pointer (some ⟨g, i, none⟩)) rfl rfl rfl (fun w => at_row Try.underlying31 us3sz35 g _ _ i (by omega) rfl w)) (fun _ _ => trivial) ?_
            refine TH.only' (listed' := #[true, true, true, true, true, true, true, true, true, true, true, true, true, true, true, true, false, false]) 15 rfl (by kernel_rfl) rfl ?_
            refine TL.uset (k := 0) (i := i) rfl rfl rfl rfl rfl rfl us3sz35 (by omega) ?_
            refine TL.end_ ?_
            refine TX.held (fun _ _ => trivial) ?_
            refine TH.take (listed' := #[true, true, true, true, true, true, true, true, true, true, true, true, true, true, true, true, true, false]) 16 rfl (by kernel_rfl) (by kernel_rfl) (by kernel_rfl) rfl rfl rfl rfl (gives_at (v := .pointer (some ⟨g, i - 1, none⟩)) rfl rfl rfl (fun w => at_row Try.underlying31 us3sz35 g _ _ (i - 1) (by omega) rfl w)) (fun _ _ => trivial) ?_
            refine TH.only' (listed' := #[true, true, true, true, true, true, true, true, true, true, true, true, true, true, true, true, true, true]) 17 rfl (by kernel_rfl) rfl ?_
            refine TL.uset (k := 0) (i := i - 1) rfl rfl rfl rfl rfl rfl us3sz35 (by rw [List.length_set]; omega) ?_
            refine TL.end_ ?_
            refine TX.held (fun _ _ => trivial) ?_
            refine TH.done (by kernel_rfl) ?_
            exact TX.joined (()) (⟨rfl, rfl, rfl, rfl, rfl, trivial⟩) (fun w1 hw => hw)
        · rintro u
          have hQ : Pin a b xs (swp ys i (i - 1)) := hP.swap (by omega) (by omega) (by omega) (by omega) (by omega)
          have hlq : (swp ys i (i - 1)).length = n := by rw [swp_len]; exact hly
          have hSq : Srt a (i - 1) (swp ys i (i - 1)) := (hS.less (by omega)).same (fun k k1 k2 => by rw [swp_dx (by omega) (by omega), if_neg (by omega), if_neg (by omega)])
          refine TC.join (α := {zs : List Int // Pin a b xs zs ∧ Srt a i zs ∧ zs.length = n}) (fun y => [(0, .slice (some ⟨g, 0, none⟩) n c), (1, .int .i64 ((a : Nat) : Int)), (2, .int .i64 ((b : Nat) : Int)), (7, .int .i64 ((i : Nat) : Int)), (8, .int .i64 ((t : Nat) : Int))]) (fun y => Pm ⟨wbut w g, g⟩ ([.row (.slice (some ⟨g, 0, none⟩) n c) 35 1 n (uv y.1)] ++ oths g w)) ?_ ?_
          · refine TC.seq_ ?_
            refine TC.region ?_
            refine TL.val rfl rfl rfl (gives_move rfl rfl) ?_
            refine TL.val rfl rfl rfl (gives_move rfl rfl) ?_
            refine TL.val rfl rfl rfl (gives_bin rfl rfl rfl (fun w => bin_sub_ (r := ((i - a : Nat) : Int)) (by simp only [IntKind.wrap_i64]; omega) w)) ?_
            refine TL.vsplit rfl rfl rfl (gives_bin rfl rfl rfl (fun w => bin_geq w)) (fun h61 => ?_) (fun h61 => ?_)
            · have q61 := of_decide_eq_true h61
              refine TL.end_ ?_
              refine TX.then_ ?_
              refine TC.condT rfl ?_
              refine TC.seq_ ?_
              refine TC.region ?_
              refine TL.val rfl rfl rfl (gives_move rfl rfl) ?_
              refine TL.val rfl rfl rfl (gives_bin rfl rfl rfl (fun w => bin_sub_ (r := ((i - 1 : Nat) : Int)) (by simp only [IntKind.wrap_i64]; omega) w)) ?_
              refine TL.val rfl rfl rfl (gives_assign rfl rfl) ?_
              refine TL.end_ ?_
              refine TX.then_ ?_
              refine TC.block ?_
              refine TC.loop_ (α := {y : Nat × List Int // a ≤ y.1 ∧ y.1 ≤ i - 1 ∧ Pin a b xs y.2 ∧ Ins a (i - 1) y.1 y.2 ∧ y.2.length = n}) (fun y => [(0, .slice (some ⟨g, 0, none⟩) n c), (1, .int .i64 ((a : Nat) : Int)), (2, .int .i64 ((b : Nat) : Int)), (7, .int .i64 ((i : Nat) : Int)), (8, .int .i64 ((t : Nat) : Int)), (9, .int .i64 ((y.1.1 : Nat) : Int))]) (fun y => Pm ⟨wbut w g, g⟩ ([.row (.slice (some ⟨g, 0, none⟩) n c) 35 1 n (uv y.1.2)] ++ oths g w)) (fun y => y.1.1) (⟨(i - 1, swp ys i (i - 1)), by dsimp only; omega, Nat.le_refl _, hQ, Ins.start hSq, hlq⟩) ⟨rfl, rfl, rfl, rfl, rfl, rfl, trivial⟩ (fun w1 hw => hw) ?_
              rintro ⟨⟨j, zs⟩, hj1, hj2, hR, hI, hlz⟩
              dsimp only at hj1 hj2 hR hI hlz ⊢
              refine TC.seq_ ?_
              refine TC.seq_ ?_
              refine TC.region ?_
              refine TL.val rfl rfl rfl (gives_move rfl rfl) ?_
              refine TL.vsplit rfl rfl rfl (gives_bin rfl rfl rfl (fun w => bin_geq w)) (fun h65 => ?_) (fun h65 => ?_)
              · have q65 := of_decide_eq_true h65
                refine TL.end_ ?_
                refine TX.then_ ?_
                refine TC.condT rfl ?_
                refine TC.skip_ ?_
                refine TX.then_ ?_
                refine TC.seq_ ?_
                refine TC.block ?_
                refine TC.seq_ ?_
                refine TC.seq_ ?_
                rcases Classical.em (dx zs j < dx zs (j - 1)) with p4 | p4
                · have haj : a < j := Nat.lt_of_not_le fun hh => by have := (hL.pin hR) (j - 1) j (by omega) (by omega) (by omega); omega
                  refine TC.quiet_ (E' := ?_) (by kernel_rfl) (by kernel_rfl) (fun w hw => hw.drawn _) ?_ ?_
                  rotate_left
                  · refine TQ.val rfl rfl rfl (gives_move rfl rfl) ?_
                    refine TQ.val rfl rfl rfl (gives_move rfl rfl) ?_
                    refine TQ.val rfl rfl rfl (gives_at (v := .pointer (some ⟨g, j, none⟩)) rfl rfl rfl (fun w => at_row Try.underlying31 us3sz35 g _ _ j (by omega) rfl w)) ?_
                    refine TQ.val rfl rfl rfl (pm_loadU (k := 0) (i := j) rfl rfl us3ag35 rfl (by omega)) ?_
                    refine TQ.val rfl rfl rfl (gives_move rfl rfl) ?_
                    refine TQ.val rfl rfl rfl (gives_move rfl rfl) ?_
                    refine TQ.val rfl rfl rfl (gives_bin rfl rfl rfl (fun w => bin_sub_ (r := ((j - 1 : Nat) : Int)) (by simp only [IntKind.wrap_i64]; omega) w)) ?_
                    refine TQ.val rfl rfl rfl (gives_at (v := .pointer (some ⟨g, j - 1, none⟩)) rfl rfl rfl (fun w => at_row Try.underlying31 us3sz35 g _ _ (j - 1) (by omega) rfl w)) ?_
                    refine TQ.val rfl rfl rfl (pm_loadU (k := 0) (i := j - 1) rfl rfl us3ag35 rfl (by omega)) ?_
                    refine TQ.call (v := .bool true) rfl rfl rfl rfl rfl Try.func68 us3nm68 us3bd68 (fun w1 hw => (less_t _ _ p4 w1).mono fun en w2 ⟨h1, h2⟩ => ⟨h1, hw.below h2⟩) ?_
                    refine TQ.val rfl rfl rfl (gives_boolnot rfl rfl) ?_
                    exact TQ.end_
                  refine TX.then_ ?_
                  refine TC.condF rfl ?_
                  refine TC.skip_ ?_
                  refine TX.then_ ?_
                  refine TC.held (ls := #[false, false, false, false, false, false, false, false, false, false, false, false, false, false, false, false, false, false]) (fun _ => True) (by kernel_rfl) rfl rfl (fun w hw => hw.drawn _) ?_
                  refine TH.take (listed' := #[true, false, false, false, false, false, false, false, false, false, false, false, false, false, false, false, false, false]) 0 rfl (by kernel_rfl) (by kernel_rfl) (by kernel_rfl) rfl rfl rfl rfl (gives_move rfl rfl) (fun _ _ => trivial) ?_
                  refine TH.take (listed' := #[true, true, false, false, false, false, false, false, false, false, false, false, false, false, false, false, false, false]) 1 rfl (by kernel_rfl) (by kernel_rfl) (by kernel_rfl) rfl rfl rfl rfl (gives_move rfl rfl) (fun _ _ => trivial) ?_
                  refine TH.take (listed' := #[true, true, true, false, false, false, false, false, false, false, false, false, false, false, false, false, false, false]) 2 rfl (by kernel_rfl) (by kernel_rfl) (by kernel_rfl) rfl rfl rfl rfl (gives_move rfl rfl) (fun _ _ => trivial) ?_
                  refine TH.take (listed' := #[true, true, true, true, false, false, false, false, false, false, false, false, false, false, false, false, false, false]) 3 rfl (by kernel_rfl) (by kernel_rfl) (by kernel_rfl) rfl rfl rfl rfl (gives_move rfl rfl) (fun _ _ => trivial) ?_
                  refine TH.take (listed' := #[true, true, true, true, true, false, false, false, false, false, false, false, false, false, false, false, false, false]) 4 rfl (by kernel_rfl) (by kernel_rfl) (by kernel_rfl) rfl rfl rfl rfl (gives_bin rfl rfl rfl (fun w => bin_sub_ (r := ((j - 1 : Nat) : Int)) (by simp only [IntKind.wrap_i64]; omega) w)) (fun _ _ => trivial) ?_
                  refine TH.take (listed' := #[true, true, true, true, true, true, false, false, false, false, false, false, false, false, false, false, false, false]) 5 rfl (by kernel_rfl) (by kernel_rfl) (by kernel_rfl) rfl rfl rfl rfl (gives_move rfl rfl) (fun _ _ => trivial) ?_
                  refine TH.take (listed' := #[true, true, true, true, true, true, true, false, false, false, false, false, false, false, false, false, false, false]) 6 rfl (by kernel_rfl) (by kernel_rfl) (by kernel_rfl) rfl rfl rfl rfl (gives_move rfl rfl) (fun _ _ => trivial) ?_
                  refine TH.take (listed' := #[true, true, true, true, true, true, true, true, false, false, false, false, false, false, false, false, false, false]) 7 rfl (by kernel_rfl) (by kernel_rfl) (by kernel_rfl) rfl rfl rfl rfl (gives_bin rfl rfl rfl (fun w => bin_sub_ (r := ((j - 1 : Nat) : Int)) (by simp only [IntKind.wrap_i64]; omega) w)) (fun _ _ => trivial) ?_
                  refine TH.take (listed' := #[true, true, true, true, true, true, true, true, true, false, false, false, false, false, false, false, false, false]) 8 rfl (by kernel_rfl) (by kernel_rfl) (by kernel_rfl) rfl rfl rfl rfl (gives_at (v := .pointer (some ⟨g, j - 1, none⟩)) rfl rfl rfl (fun w => at_row Try.underlying31 us3sz35 g _ _ (j - 1) (by omega) rfl w)) (fun _ _ => trivial) ?_
                  refine TH.take (listed' := #[true, true, true, true, true, true, true, true, true, false, true, false, false, false, false, false, false, false]) 10 rfl (by kernel_rfl) (by kernel_rfl) (by kernel_rfl) rfl rfl rfl rfl (gives_move rfl rfl) (fun _ _ => trivial) ?_
                  refine TH.take (listed' := #[true, true, true, true, true, true, true, true, true, false, true, true, false, false, false, false, false, false]) 11 rfl (by kernel_rfl) (by kernel_rfl) (by kernel_rfl) rfl rfl rfl rfl (gives_move rfl rfl) (fun _ _ => trivial) ?_
                  refine TH.take (listed' := #[true, true, true, true, true, true, true, true, true, false, true, true, true, false, false, false, false, false]) 12 rfl (by kernel_rfl) (by kernel_rfl) (by kernel_rfl) rfl rfl rfl rfl (gives_at (v := .pointer (some ⟨g, j, none⟩)) rfl rfl rfl (fun w => at_row Try.underlying31 us3sz35 g _ _ j (by omega) rfl w)) (fun _ _ => trivial) ?_
                  refine TH.two' (listed1 := #[true, true, true, true, true, true, true, true, true, true, true, true, true, false, false, false, false, false]) (listed2 := #[true, true, true, true, true, true, true, true, true, false, true, true, true, true, false, false, false, false]) 9 13 rfl rfl (by kernel_rfl) rfl rfl ?_ ?_
                  · refine TL.val rfl rfl rfl (pm_loadU (k := 0) (i := j - 1) rfl rfl us3ag35 rfl (by omega)) ?_
                    refine TL.end_ ?_
                    refine TX.held (fun _ _ => trivial) ?_
                    refine TH.only' (listed' := #[true, true, true, true, true, true, true, true, true, true, true, true, true, true, false, false, false, false]) 13 rfl (by kernel_rfl) rfl ?_
                    refine TL.val rfl rfl rfl (pm_loadU (k := 0) (i := j) rfl rfl us3ag35 rfl (by omega)) ?_
                    refine TL.end_ ?_
                    refine TX.held (fun _ _ => trivial) ?_
                    refine TH.take (listed' := #[true, true, true, true, true, true, true, true, true, true, true, true, true, true, true, false, false, false]) 14 rfl (by kernel_rfl) (by kernel_rfl) (by kernel_rfl) rfl rfl rfl rfl (gives_at (v := .pointer (some ⟨g, j, none⟩)) rfl rfl rfl (fun w => at_row Try.underlying31 us3sz35 g _ _ j (by omega) rfl w)) (fun _ _ => trivial) ?_
                    refine TH.only' (listed' := #[true, true, true, true, true, true, true, true, true, true, true, true, true, true, true, true, false, false]) 15 rfl (by kernel_rfl) rfl ?_
                    refine TL.uset (k := 0) (i := j) rfl rfl rfl rfl rfl rfl us3sz35 (by omega) ?_
                    refine TL.end_ ?_
                    refine TX.held (fun _ _ => trivial) ?_
                    refine TH.take (listed' := #[true, true, true, true, true, true, true, true, true, true, true, true, true, true, true, true, true, false]) 16 rfl (by kernel_rfl) (by kernel_rfl) (by kernel_rfl) rfl rfl rfl rfl (gives_at (v := .pointer (some ⟨g, j - 1, none⟩)) rfl rfl rfl (fun w => at_row Try.underlying31 us3sz35 g _ _ (j - 1) (by omega) rfl w)) (fun _ _ => trivial) ?_
                    refine TH.only' (listed' := #[true, true, true, true, true, true, true, true, true, true, true, true, true, true, true, true, true, true]) 17 rfl (by kernel_rfl) rfl ?_
                    refine TL.uset (k := 0) (i := j - 1) rfl rfl rfl rfl rfl rfl us3sz35 (by rw [List.length_set]; omega) ?_
                    refine TL.end_ ?_
                    refine TX.held (fun _ _ => trivial) ?_
                    refine TH.done (by kernel_rfl) ?_
                    refine TX.in_normal ?_
                    refine TX.then_ ?_
                    refine TC.region ?_
                    refine TL.val rfl rfl rfl (gives_move rfl rfl) ?_
                    refine TL.val rfl rfl rfl (gives_bin rfl rfl rfl (fun w => bin_sub_ (r := ((j - 1 : Nat) : Int)) (by simp only [IntKind.wrap_i64]; omega) w)) ?_
                    refine TL.val rfl rfl rfl (gives_assign rfl rfl) ?_
                    refine TL.end_ ?_
                    exact TX.round (⟨(j - 1, swp zs j (j - 1)), by dsimp only; omega, by dsimp only; omega, hR.swap (by omega) (by omega) (by omega) (by omega) (by omega), hI.down haj hj2 (by omega) p4, by rw [swp_len]; exact hlz⟩) (by show j - 1 < j; omega) ⟨rfl, rfl, rfl, rfl, rfl, rfl, trivial⟩ (fun w1 hw => hw)
                  · refine TL.val rfl rfl rfl (pm_loadU (k := 0) (i := j) rfl rfl us3ag35 rfl (by omega)) ?_
                    refine TL.end_ ?_
                    refine TX.held (fun _ _ => trivial) ?_
                    refine TH.only' (listed' := #[true, true, true, true, true, true, true, true, true, true, true, true, true, true, false, false, false, false]) 9 rfl (by kernel_rfl) rfl ?_
                    refine TL.val rfl rfl rfl (pm_loadU (k := 0) (i := j - 1) rfl rfl us3ag35 rfl (by omega)) ?_
                    refine TL.end_ ?_
                    refine TX.held (fun _ _ => trivial) ?_
                    refine TH.take (listed' := #[true, true, true, true, true, true, true, true, true, true, true, true, true, true, true, false, false, false]) 14 rfl (by kernel_rfl) (by kernel_rfl) (by kernel_rfl) rfl rfl rfl rfl (gives_at (v := .pointer (some ⟨g, j, none⟩)) rfl rfl rfl (fun w => at_row Try.underlying31 us3sz35 g _ _ j (by omega) rfl w)) (fun _ _ => trivial) ?_
                    refine TH.only' (listed' := #[true, true, true, true, true, true, true, true, true, true, true, true, true, true, true, true, false, false]) 15 rfl (by kernel_rfl) rfl ?_
                    refine TL.uset (k := 0) (i := j) rfl rfl rfl rfl rfl rfl us3sz35 (by omega) ?_
                    refine TL.end_ ?_
                    refine TX.held (fun _ _ => trivial) ?_
                    refine TH.take (listed' := #[true, true, true, true, true, true, true, true, true, true, true, true, true, true, true, true, true, false]) 16 rfl (by kernel_rfl) (by kernel_rfl) (by kernel_rfl) rfl rfl rfl rfl (gives_at (v := .pointer (some ⟨g, j - 1, none⟩)) rfl rfl rfl (fun w => at_row Try.underlying31 us3sz35 g _ _ (j - 1) (by omega) rfl w)) (fun _ _ => trivial) ?_
                    refine TH.only' (listed' := #[true, true, true, true, true, true, true, true, true, true, true, true, true, true, true, true, true, true]) 17 rfl (by kernel_rfl) rfl ?_
                    refine TL.uset (k := 0) (i := j - 1) rfl rfl rfl rfl rfl rfl us3sz35 (by rw [List.length_set]; omega) ?_
                    refine TL.end_ ?_
                    refine TX.held (fun _ _ => trivial) ?_
                    refine TH.done (by kernel_rfl) ?_
                    refine TX.in_normal ?_
                    refine TX.then_ ?_
                    refine TC.region ?_
                    refine TL.val rfl rfl rfl (gives_move rfl rfl) ?_
                    refine TL.val rfl rfl rfl (gives_bin rfl rfl rfl (fun w => bin_sub_ (r := ((j - 1 : Nat) : Int)) (by simp only [IntKind.wrap_i64]; omega) w)) ?_
                    refine TL.val rfl rfl rfl (gives_assign rfl rfl) ?_
                    refine TL.end_ ?_
                    exact TX.round (⟨(j - 1, swp zs j (j - 1)), by dsimp only; omega, by dsimp only; omega, hR.swap (by omega) (by omega) (by omega) (by omega) (by omega), hI.down haj hj2 (by omega) p4, by rw [swp_len]; exact hlz⟩) (by show j - 1 < j; omega) ⟨rfl, rfl, rfl, rfl, rfl, rfl, trivial⟩ (fun w1 hw => hw)
                · have hSr : Srt a i zs := by have := hI.stop (fun _ => by omega); rwa [show i - 1 + 1 = i by omega] at this
                  refine TC.quiet_ (E' := ?_) (by kernel_rfl) (by kernel_rfl) (fun w hw => hw.drawn _) ?_ ?_
                  rotate_left
                  · refine TQ.val rfl rfl rfl (gives_move rfl rfl) ?_
                    refine TQ.val rfl rfl rfl (gives_move rfl rfl) ?_
                    refine TQ.val rfl rfl rfl (gives_at (v := .pointer (some ⟨g, j, none⟩)) rfl rfl rfl (fun w => at_row Try.underlying31 us3sz35 g _ _ j (by omega) rfl w)) ?_
                    refine TQ.val rfl rfl rfl (pm_loadU (k := 0) (i := j) rfl rfl us3ag35 rfl (by omega)) ?_
                    refine TQ.val rfl rfl rfl (gives_move rfl rfl) ?_
                    refine TQ.val rfl rfl rfl (gives_move rfl rfl) ?_
                    refine TQ.val rfl rfl rfl (gives_bin rfl rfl rfl (fun w => bin_sub_ (r := ((j - 1 : Nat) : Int)) (by simp only [IntKind.wrap_i64]; omega) w)) ?_
                    refine TQ.val rfl rfl rfl (gives_at (v := .pointer (some ⟨g, j - 1, none⟩)) rfl rfl rfl (fun w => at_row Try.underlying31 us3sz35 g _ _ (j - 1) (by omega) rfl w)) ?_
                    refine TQ.val rfl rfl rfl (pm_loadU (k := 0) (i := j - 1) rfl rfl us3ag35 rfl (by omega)) ?_
                    refine TQ.call (v := .bool false) rfl rfl rfl rfl rfl Try.func68 us3nm68 us3bd68 (fun w1 hw => (less_f _ _ p4 w1).mono fun en w2 ⟨h1, h2⟩ => ⟨h1, hw.below h2⟩) ?_
                    refine TQ.val rfl rfl rfl (gives_boolnot rfl rfl) ?_
                    exact TQ.end_
                  refine TX.then_ ?_
                  refine TC.condT rfl ?_
                  refine TC.exit_ ?_
                  refine TX.then_exit ?_
                  refine TX.in_other rfl ?_
                  refine TX.then_exit ?_
                  refine TX.then_exit ?_
                  refine TX.in_same ?_
                  exact TX.joined (⟨zs, hR, hSr, hlz⟩) (⟨rfl, rfl, rfl, rfl, rfl, trivial⟩) (fun w1 hw => hw)
              · have q65 := of_decide_eq_false h65
                have hSr : Srt a i zs := by have := hI.stop (fun hh => by omega); rwa [show i - 1 + 1 = i by omega] at this
                refine TL.end_ ?_
                refine TX.then_ ?_
                refine TC.condF rfl ?_
                refine TC.exit_ ?_
                refine TX.then_exit ?_
                refine TX.then_exit ?_
                refine TX.in_same ?_
                exact TX.joined (⟨zs, hR, hSr, hlz⟩) (⟨rfl, rfl, rfl, rfl, rfl, trivial⟩) (fun w1 hw => hw)
            · have q61 := of_decide_eq_false h61
              refine TL.end_ ?_
              refine TX.then_ ?_
              refine TC.condF rfl ?_
              refine TC.skip_ ?_
              exact TX.joined (⟨swp ys i (i - 1), hQ, Srt.one (by omega), hlq⟩) (⟨rfl, rfl, rfl, rfl, rfl, trivial⟩) (fun w1 hw => hw)
          · rintro ⟨us, hU, hSu, hlu⟩
            try dsimp only
            refine TC.seq_ ?_
            refine TC.region ?_
            refine TL.val rfl rfl rfl (gives_move rfl rfl) ?_
            refine TL.val rfl rfl rfl (gives_move rfl rfl) ?_
            refine TL.val rfl rfl rfl (gives_bin rfl rfl rfl (fun w => bin_sub_ (r := ((b - i : Nat) : Int)) (by simp only [IntKind.wrap_i64]; omega) w)) ?_
            refine TL.vsplit rfl rfl rfl (gives_bin rfl rfl rfl (fun w => bin_geq w)) (fun h98 => ?_) (fun h98 => ?_)
            · have q98 := of_decide_eq_true h98
              refine TL.end_ ?_
              refine TX.then_ ?_
              refine TC.condT rfl ?_
              refine TC.seq_ ?_
              refine TC.region ?_
              refine TL.val rfl rfl rfl (gives_move rfl rfl) ?_
              refine TL.val rfl rfl rfl (gives_bin rfl rfl rfl (fun w => bin_add_ (r := ((i + 1 : Nat) : Int)) (by simp only [IntKind.wrap_i64]; omega) w)) ?_
              refine TL.val rfl rfl rfl (gives_assign rfl rfl) ?_
              refine TL.end_ ?_
              refine TX.then_ ?_
              refine TC.block ?_
              refine TC.loop_ (α := {y : Nat × List Int // i < y.1 ∧ y.1 ≤ b ∧ Pin a b xs y.2 ∧ Srt a i y.2 ∧ y.2.length = n}) (fun y => [(0, .slice (some ⟨g, 0, none⟩) n c), (1, .int .i64 ((a : Nat) : Int)), (2, .int .i64 ((b : Nat) : Int)), (7, .int .i64 ((i : Nat) : Int)), (8, .int .i64 ((t : Nat) : Int)), (10, .int .i64 ((y.1.1 : Nat) : Int))]) (fun y => Pm ⟨wbut w g, g⟩ ([.row (.slice (some ⟨g, 0, none⟩) n c) 35 1 n (uv y.1.2)] ++ oths g w)) (fun y => b - y.1.1) (⟨(i + 1, us), by dsimp only; omega, by dsimp only; omega, hU, hSu, hlu⟩) ⟨rfl, rfl, rfl, rfl, rfl, rfl, trivial⟩ (fun w1 hw => hw) ?_
              rintro ⟨⟨j, vs⟩, hj1, hj2, hV, hSv, hlv⟩
              dsimp only at hj1 hj2 hV hSv hlv ⊢
              refine TC.seq_ ?_
              refine TC.seq_ ?_
              refine TC.region ?_
              refine TL.val rfl rfl rfl (gives_move rfl rfl) ?_
              refine TL.val rfl rfl rfl (gives_move rfl rfl) ?_
              refine TL.vsplit rfl rfl rfl (gives_bin rfl rfl rfl (fun w => bin_lss w)) (fun h103 => ?_) (fun h103 => ?_)
              · have q103 := of_decide_eq_true h103
                refine TL.end_ ?_
                refine TX.then_ ?_
                refine TC.condT rfl ?_
                refine TC.skip_ ?_
                refine TX.then_ ?_
                refine TC.seq_ ?_
                refine TC.block ?_
                refine TC.seq_ ?_
                refine TC.seq_ ?_
                rcases Classical.em (dx vs j < dx vs (j - 1)) with p5 | p5
                · refine TC.quiet_ (E' := ?_) (by kernel_rfl) (by kernel_rfl) (fun w hw => hw.drawn _) ?_ ?_
                  rotate_left
                  · refine TQ.val rfl rfl rfl (gives_move rfl rfl) ?_
                    refine TQ.val rfl rfl rfl (gives_move rfl rfl) ?_
                    refine TQ.val rfl rfl rfl (gives_at (v := .pointer (some ⟨g, j, none⟩)) rfl rfl rfl (fun w => at_row Try.underlying31 us3sz35 g _ _ j (by omega) rfl w)) ?_
                    refine TQ.val rfl rfl rfl (pm_loadU (k := 0) (i := j) rfl rfl us3ag35 rfl (by omega)) ?_
                    refine TQ.val rfl rfl rfl (gives_move rfl rfl) ?_
                    refine TQ.val rfl rfl rfl (gives_move rfl rfl) ?_
                    refine TQ.val rfl rfl rfl (gives_bin rfl rfl rfl (fun w => bin_sub_ (r := ((j - 1 : Nat) : Int)) (by simp only [IntKind.wrap_i64]; omega) w)) ?_
                    refine TQ.val rfl rfl rfl (gives_at (v := .pointer (some ⟨g, j - 1, none⟩)) rfl rfl rfl (fun w => at_row Try.underlying31 us3sz35 g _ _ (j - 1) (by omega) rfl w)) ?_
                    refine TQ.val rfl rfl rfl (pm_loadU (k := 0) (i := j - 1) rfl rfl us3ag35 rfl (by omega)) ?_
                    refine TQ.call (v := .bool true) rfl rfl rfl rfl rfl Try.func68 us3nm68 us3bd68 (fun w1 hw => (less_t _ _ p5 w1).mono fun en w2 ⟨h1, h2⟩ => ⟨h1, hw.below h2⟩) ?_
                    refine TQ.val rfl rfl rfl (gives_boolnot rfl rfl) ?_
                    exact TQ.end_
                  refine TX.then_ ?_
                  refine TC.condF rfl ?_
                  refine TC.skip_ ?_
                  refine TX.then_ ?_
                  refine TC.held (ls := #[false, false, false, false, false, false, false, false, false, false, false, false, false, false, false, false, false, false]) (fun _ => True) (by kernel_rfl) rfl rfl (fun w hw => hw.drawn _) ?_
                  refine TH.take (listed' := #[true, false, false, false, false, false, false, false, false, false, false, false, false, false, false, false, false, false]) 0 rfl (by kernel_rfl) (by kernel_rfl) (by kernel_rfl) rfl rfl rfl rfl (gives_move rfl rfl) (fun _ _ => trivial) ?_
                  refine TH.take (listed' := #[true, true, false, false, false, false, false, false, false, false, false, false, false, false, false, false, false, false]) 1 rfl (by kernel_rfl) (by kernel_rfl) (by kernel_rfl) rfl rfl rfl rfl (gives_move rfl rfl) (fun _ _ => trivial) ?_
                  refine TH.take (listed' := #[true, true, true, false, false, false, false, false, false, false, false, false, false, false, false, false, false, false]) 2 rfl (by kernel_rfl) (by kernel_rfl) (by kernel_rfl) rfl rfl rfl rfl (gives_move rfl rfl) (fun _ _ => trivial) ?_
                  refine TH.take (listed' := #[true, true, true, true, false, false, false, false, false, false, false, false, false, false, false, false, false, false]) 3 rfl (by kernel_rfl) (by kernel_rfl) (by kernel_rfl) rfl rfl rfl rfl (gives_move rfl rfl) (fun _ _ => trivial) ?_
                  refine TH.take (listed' := #[true, true, true, true, true, false, false, false, false, false, false, false, false, false, false, false, false, false]) 4 rfl (by kernel_rfl) (by kernel_rfl) (by kernel_rfl) rfl rfl rfl rfl (gives_bin rfl rfl rfl (fun w => bin_sub_ (r := ((j - 1 : Nat) : Int)) (by simp only [IntKind.wrap_i64]; omega) w)) (fun _ _ => trivial) ?_
                  refine TH.take (listed' := #[true, true, true, true, true, true, false, false, false, false, false, false, false, false, false, false, false, false]) 5 rfl (by kernel_rfl) (by kernel_rfl) (by kernel_rfl) rfl rfl rfl rfl (gives_move rfl rfl) (fun _ _ => trivial) ?_
                  refine TH.take (listed' := #[true, true, true, true, true, true, true, false, false, false, false, false, false, false, false, false, false, false]) 6 rfl (by kernel_rfl) (by kernel_rfl) (by kernel_rfl) rfl rfl rfl rfl (gives_move rfl rfl) (fun _ _ => trivial) ?_
                  refine TH.take (listed' := #[true, true, true, true, true, true, true, true, false, false, false, false, false, false, false, false, false, false]) 7 rfl (by kernel_rfl) (by kernel_rfl) (by kernel_rfl) rfl rfl rfl rfl (gives_bin rfl rfl rfl (fun w => bin_sub_ (r := ((j - 1 : Nat) : Int)) (by simp only [IntKind.wrap_i64]; omega) w)) (fun _ _ => trivial) ?_
                  refine TH.take (listed' := #[true, true, true, true, true, true, true, true, true, false, false, false, false, false, false, false, false, false]) 8 rfl (by kernel_rfl) (by kernel_rfl) (by kernel_rfl) rfl rfl rfl rfl (gives_at (v := .pointer (some ⟨g, j - 1, none⟩)) rfl rfl rfl (fun w => at_row Try.underlying31 us3sz35 g _ _ (j - 1) (by omega) rfl w)) (fun _ _ => trivial) ?_
                  refine TH.take (listed' := #[true, true, true, true, true, true, true, true, true, false, true, false, false, false, false, false, false, false]) 10 rfl (by kernel_rfl) (by kernel_rfl) (by kernel_rfl) rfl rfl rfl rfl (gives_move rfl rfl) (fun _ _ => trivial) ?_
                  refine TH.take (listed' := #[true, true, true, true, true, true, true, true, true, false, true, true, false, false, false, false, false, false]) 11 rfl (by kernel_rfl) (by kernel_rfl) (by kernel_rfl) rfl rfl rfl rfl (gives_move rfl rfl) (fun _ _ => trivial) ?_
                  refine TH.take (listed' := #[true, true, true, true, true, true, true, true, true, false, true, true, true, false, false, false, false, false]) 12 rfl (by kernel_rfl) (by kernel_rfl) (by kernel_rfl) rfl rfl rfl rfl (gives_at (v := .pointer (some ⟨g, j, none⟩)) rfl rfl rfl (fun w => at_row Try.underlying31 us3sz35 g _ _ j (by omega) rfl w)) (fun _ _ => trivial) ?_
                  refine TH.two' (listed1 := #[true, true, true, true, true, true, true, true, true, true, true, true, true, false, false, false, false, false]) (listed2 := #[true, true, true, true, true, true, true, true, true, false, true, true, true, true, false, false, false, false]) 9 13 rfl rfl (by kernel_rfl) rfl rfl ?_ ?_
                  · refine TL.val rfl rfl rfl (pm_loadU (k := 0) (i := j - 1) rfl rfl us3ag35 rfl (by omega)) ?_
                    refine TL.end_ ?_
                    refine TX.held (fun _ _ => trivial) ?_
                    refine TH.only' (listed' := #[true, true, true, true, true, true, true, true, true, true, true, true, true, true, false, false, false, false]) 13 rfl (by kernel_rfl) rfl ?_
                    refine TL.val rfl rfl rfl (pm_loadU (k := 0) (i := j) rfl rfl us3ag35 rfl (by omega)) ?_
                    refine TL.end_ ?_
                    refine TX.held (fun _ _ => trivial) ?_
                    refine TH.take (listed' := #[true, true, true, true, true, true, true, true, true, true, true, true, true, true, true, false, false, false]) 14 rfl (by kernel_rfl) (by kernel_rfl) (by kernel_rfl) rfl rfl rfl rfl (gives_at (v := .pointer (some ⟨g, j, none⟩)) rfl rfl rfl (fun w => at_row Try.underlying31 us3sz35 g _ _ j (by omega) rfl w)) (fun _ _ => trivial) ?_
                    refine TH.only' (listed' := #[true, true, true, true, true, true, true, true, true, true, true, true, true, true, true, true, false, false]) 15 rfl (by kernel_rfl) rfl ?_
                    refine TL.uset (k := 0) (i := j) rfl rfl rfl rfl rfl rfl us3sz35 (by omega) ?_
                    refine TL.end_ ?_
                    refine TX.held (fun _ _ => trivial) ?_
                    refine TH.take (listed' := #[true, true, true, true, true, true, true, true, true, true, true, true, true, true, true, true, true, false]) 16 rfl (by kernel_rfl) (by kernel_rfl) (by kernel_rfl) rfl rfl rfl rfl (gives_at (v := .pointer (some ⟨g, j - 1, none⟩)) rfl rfl rfl (fun w => at_row Try.underlying31 us3sz35 g _ _ (j - 1) (by omega) rfl w)) (fun _ _ => trivial) ?_
                    refine TH.only' (listed' := #[true, true, true, true, true, true, true, true, true, true, true, true, true, true, true, true, true, true]) 17 rfl (by kernel_rfl) rfl ?_
                    refine TL.uset (k := 0) (i := j - 1) rfl rfl rfl rfl rfl rfl us3sz35 (by rw [List.length_set]; omega) ?_
                    refine TL.end_ ?_
                    refine TX.held (fun _ _ => trivial) ?_
                    refine TH.done (by kernel_rfl) ?_
                    refine TX.in_normal ?_
                    refine TX.then_ ?_
                    refine TC.region ?_
                    refine TL.val rfl rfl rfl (gives_move rfl rfl) ?_
                    refine TL.val rfl rfl rfl (gives_bin rfl rfl rfl (fun w => bin_add_ (r := ((j + 1 : Nat) : Int)) (by simp only [IntKind.wrap_i64]; omega) w)) ?_
                    refine TL.val rfl rfl rfl (gives_assign rfl rfl) ?_
                    refine TL.end_ ?_
                    exact TX.round (⟨(j + 1, swp vs j (j - 1)), by dsimp only; omega, by dsimp only; omega, hV.swap (by omega) (by omega) (by omega) (by omega) (by omega), hSv.same (fun k k1 k2 => by rw [swp_dx (by omega) (by omega), if_neg (by omega), if_neg (by omega)]), by rw [swp_len]; exact hlv⟩) (by show b - (j + 1) < b - j; omega) ⟨rfl, rfl, rfl, rfl, rfl, rfl, trivial⟩ (fun w1 hw => hw)
                  · refine TL.val rfl rfl rfl (pm_loadU (k := 0) (i := j) rfl rfl us3ag35 rfl (by omega)) ?_
                    refine TL.end_ ?_
                    refine TX.held (fun _ _ => trivial) ?_
                    refine TH.only' (listed' := #[true, true, true, true, true, true, true, true, true, true, true, true, true, true, false, false, false, false]) 9 rfl (by kernel_rfl) rfl ?_
                    refine TL.val rfl rfl rfl (pm_loadU (k := 0) (i := j - 1) rfl rfl us3ag35 rfl (by omega)) ?_
                    refine TL.end_ ?_
                    refine TX.held (fun _ _ => trivial) ?_
                    refine TH.take (listed' := #[true, true, true, true, true, true, true, true, true, true, true, true, true, true, true, false, false, false]) 14 rfl (by kernel_rfl) (by kernel_rfl) (by kernel_rfl) rfl rfl rfl rfl (gives_at (v := .pointer (some ⟨g, j, none⟩)) rfl rfl rfl (fun w => at_row Try.underlying31 us3sz35 g _ _ j (by omega) rfl w)) (fun _ _ => trivial) ?_
                    refine TH.only' (listed' := #[true, true, true, true, true, true, true, true, true, true, true, true, true, true, true, true, false, false]) 15 rfl (by kernel_rfl) rfl ?_
                    refine TL.uset (k := 0) (i := j) rfl rfl rfl rfl rfl rfl us3sz35 (by omega) ?_
                    refine TL.end_ ?_
                    refine TX.held (fun _ _ => trivial) ?_
                    refine TH.take (listed' := #[true, true, true, true, true, true, true, true, true, true, true, true, true, true, true, true, true, false]) 16 rfl (by kernel_rfl) (by kernel_rfl) (by kernel_rfl) rfl rfl rfl rfl (gives_at (v := .pointer (some ⟨g, j - 1, none⟩)) rfl rfl rfl (fun w => at_row Try.underlying31 us3sz35 g _ _ (j - 1) (by omega) rfl w)) (fun _ _ => trivial) ?_
                    refine TH.only' (listed' := #[true, true, true, true, true, true, true, true, true, true, true, true, true, true, true, true, true, true]) 17 rfl (by kernel_rfl) rfl ?_
                    refine TL.uset (k := 0) (i := j - 1) rfl rfl rfl rfl rfl rfl us3sz35 (by rw [List.length_set]; omega) ?_
                    refine TL.end_ ?_
                    refine TX.held (fun _ _ => trivial) ?_
                    refine TH.done (by kernel_rfl) ?_
                    refine TX.in_normal ?_
                    refine TX.then_ ?_
                    refine TC.region ?_
                    refine TL.val rfl rfl rfl (gives_move rfl rfl) ?_
                    refine TL.val rfl rfl rfl (gives_bin rfl rfl rfl (fun w => bin_add_ (r := ((j + 1 : Nat) : Int)) (by simp only [IntKind.wrap_i64]; omega) w)) ?_
                    refine TL.val rfl rfl rfl (gives_assign rfl rfl) ?_
                    refine TL.end_ ?_
                    exact TX.round (⟨(j + 1, swp vs j (j - 1)), by dsimp only; omega, by dsimp only; omega, hV.swap (by omega) (by omega) (by omega) (by omega) (by omega), hSv.same (fun k k1 k2 => by rw [swp_dx (by omega) (by omega), if_neg (by omega), if_neg (by omega)]), by rw [swp_len]; exact hlv⟩) (by show b - (j + 1) < b - j; omega) ⟨rfl, rfl, rfl, rfl, rfl, rfl, trivial⟩ (fun w1 hw => hw)
                · refine TC.quiet_ (E' := ?_) (by kernel_rfl) (by kernel_rfl) (fun w hw => hw.drawn _) ?_ ?_
                  rotate_left
                  · refine TQ.val rfl rfl rfl (gives_move rfl rfl) ?_
                    refine TQ.val rfl rfl rfl (gives_move rfl rfl) ?_
                    refine TQ.val rfl rfl rfl (gives_at (v := .pointer (some ⟨g, j, none⟩)) rfl rfl rfl (fun w => at_row Try.underlying31 us3sz35 g _ _ j (by omega) rfl w)) ?_
                    refine TQ.val rfl rfl rfl (pm_loadU (k := 0) (i := j) rfl rfl us3ag35 rfl (by omega)) ?_
                    refine TQ.val rfl rfl rfl (gives_move rfl rfl) ?_
                    refine TQ.val rfl rfl rfl (gives_move rfl rfl) ?_
                    refine TQ.val rfl rfl rfl (gives_bin rfl rfl rfl (fun w => bin_sub_ (r := ((j - 1 : Nat) : Int)) (by simp only [IntKind.wrap_i64]; omega) w)) ?_
                    refine TQ.val rfl rfl rfl (gives_at (v := .pointer (some ⟨g, j - 1, none⟩)) rfl rfl rfl (fun w => at_row Try.underlying31 us3sz35 g _ _ (j - 1) (by omega) rfl w)) ?_
                    refine TQ.val rfl rfl rfl (pm_loadU (k := 0) (i := j - 1) rfl rfl us3ag35 rfl (by omega)) ?_
                    refine TQ.call (v := .bool false) rfl rfl rfl rfl rfl Try.func68 us3nm68 us3bd68 (fun w1 hw => (less_f _ _ p5 w1).mono fun en w2 ⟨h1, h2⟩ => ⟨h1, hw.below h2⟩) ?_
                    refine TQ.val rfl rfl rfl (gives_boolnot rfl rfl) ?_
                    exact TQ.end_
                  refine TX.then_ ?_
                  refine TC.condT rfl ?_
                  refine TC.exit_ ?_
                  refine TX.then_exit ?_
                  refine TX.in_other rfl ?_
                  refine TX.then_exit ?_
                  refine TX.then_exit ?_
                  refine TX.in_same ?_
                  refine TX.in_normal ?_
                  refine TX.then_ ?_
                  refine TC.region ?_
                  refine TL.val rfl rfl rfl (gives_move rfl rfl) ?_
                  refine TL.val rfl rfl rfl (gives_bin rfl rfl rfl (fun w => bin_add_ (r := ((t + 1 : Nat) : Int)) (by simp only [IntKind.wrap_i64]; omega) w)) ?_
                  refine TL.val rfl rfl rfl (gives_assign rfl rfl) ?_
                  refine TL.end_ ?_
                  exact TX.round (⟨(t + 1, i, vs), by dsimp only; omega, by dsimp only; omega, by dsimp only; omega, hV, hSv, hlv⟩) (by show 5 - (t + 1) < 5 - t; omega) ⟨rfl, rfl, rfl, rfl, rfl, trivial⟩ (fun w1 hw => hw)
              · have q103 := of_decide_eq_false h103
                refine TL.end_ ?_
                refine TX.then_ ?_
                refine TC.condF rfl ?_
                refine TC.exit_ ?_
                refine TX.then_exit ?_
                refine TX.then_exit ?_
                refine TX.in_same ?_
                refine TX.in_normal ?_
                refine TX.then_ ?_
                refine TC.region ?_
                refine TL.val rfl rfl rfl (gives_move rfl rfl) ?_
                refine TL.val rfl rfl rfl (gives_bin rfl rfl rfl (fun w => bin_add_ (r := ((t + 1 : Nat) : Int)) (by simp only [IntKind.wrap_i64]; omega) w)) ?_
                refine TL.val rfl rfl rfl (gives_assign rfl rfl) ?_
                refine TL.end_ ?_
                exact TX.round (⟨(t + 1, i, vs), by dsimp only; omega, by dsimp only; omega, by dsimp only; omega, hV, hSv, hlv⟩) (by show 5 - (t + 1) < 5 - t; omega) ⟨rfl, rfl, rfl, rfl, rfl, trivial⟩ (fun w1 hw => hw)
            · have q98 := of_decide_eq_false h98
              refine TL.end_ ?_
              refine TX.then_ ?_
              refine TC.condF rfl ?_
              refine TC.skip_ ?_
              refine TX.in_normal ?_
              refine TX.then_ ?_
              refine TC.region ?_
              refine TL.val rfl rfl rfl (gives_move rfl rfl) ?_
              refine TL.val rfl rfl rfl (gives_bin rfl rfl rfl (fun w => bin_add_ (r := ((t + 1 : Nat) : Int)) (by simp only [IntKind.wrap_i64]; omega) w)) ?_
              refine TL.val rfl rfl rfl (gives_assign rfl rfl) ?_
              refine TL.end_ ?_
              exact TX.round (⟨(t + 1, i, us), by dsimp only; omega, by dsimp only; omega, by dsimp only; omega, hU, hSu, hlu⟩) (by show 5 - (t + 1) < 5 - t; omega) ⟨rfl, rfl, rfl, rfl, rfl, trivial⟩ (fun w1 hw => hw)
    · have hS2 : Srt a (i + 1) ys := hS.snoc (fun hh => by omega)
      refine TC.quiet_ (E' := ?_) (by kernel_rfl) (by kernel_rfl) (fun w hw => hw.drawn _) ?_ ?_
      rotate_left
      · refine TQ.val rfl rfl rfl (gives_move rfl rfl) ?_
        refine TQ.val rfl rfl rfl (gives_move rfl rfl) ?_
        refine TQ.val rfl rfl rfl (gives_bin rfl rfl rfl (fun w => bin_lss_t (by omega) w)) ?_
        refine TQ.val rfl rfl rfl (gives_move rfl rfl) ?_
        refine TQ.on rfl rfl rfl ?_
        refine TQ.val rfl rfl rfl (gives_move rfl rfl) ?_
        refine TQ.on rfl rfl rfl ?_
        refine TQ.val rfl rfl rfl (gives_move rfl rfl) ?_
        refine TQ.on rfl rfl rfl ?_
        refine TQ.val rfl rfl rfl (gives_at (v := .pointer (some ⟨g, i, none⟩)) rfl rfl rfl (fun w => at_row Try.underlying31 us3sz35 g _ _ i (by omega) rfl w)) ?_
        refine TQ.on rfl rfl rfl ?_
        refine TQ.val rfl rfl rfl (pm_loadU (k := 0) (i := i) rfl rfl us3ag35 rfl (by omega)) ?_
        refine TQ.on rfl rfl rfl ?_
        refine TQ.val rfl rfl rfl (gives_move rfl rfl) ?_
        refine TQ.on rfl rfl rfl ?_
        refine TQ.val rfl rfl rfl (gives_move rfl rfl) ?_
        refine TQ.on rfl rfl rfl ?_
        refine TQ.val rfl rfl rfl (gives_bin rfl rfl rfl (fun w => bin_sub_ (r := ((i - 1 : Nat) : Int)) (by simp only [IntKind.wrap_i64]; omega) w)) ?_
        refine TQ.on rfl rfl rfl ?_
        refine TQ.val rfl rfl rfl (gives_at (v := .pointer (some ⟨g, i - 1, none⟩)) rfl rfl rfl (fun w => at_row Try.underlying31 us3sz35 g _ _ (i - 1) (by omega) rfl w)) ?_
        refine TQ.on rfl rfl rfl ?_
        refine TQ.val rfl rfl rfl (pm_loadU (k := 0) (i := i - 1) rfl rfl us3ag35 rfl (by omega)) ?_
        refine TQ.on rfl rfl rfl ?_
        refine TQ.call (v := .bool false) rfl rfl rfl rfl rfl Try.func68 us3nm68 us3bd68 (fun w1 hw => (less_f _ _ p2 w1).mono fun en w2 ⟨h1, h2⟩ => ⟨h1, hw.below h2⟩) ?_
        refine TQ.on rfl rfl rfl ?_
        refine TQ.val rfl rfl rfl (gives_boolnot rfl rfl) ?_
        refine TQ.val rfl rfl rfl (gives_pick rfl rfl rfl) ?_
        exact TQ.end_
      refine TX.then_ ?_
      refine TC.condT rfl ?_
      refine TC.skip_ ?_
      refine TX.then_ ?_
      refine TC.block ?_
      refine TC.region ?_
      refine TL.val rfl rfl rfl (gives_move rfl rfl) ?_
      refine TL.val rfl rfl rfl (gives_bin rfl rfl rfl (fun w => bin_add_ (r := ((i + 1 : Nat) : Int)) (by simp only [IntKind.wrap_i64]; omega) w)) ?_
      refine TL.val rfl rfl rfl (gives_assign rfl rfl) ?_
      refine TL.end_ ?_
      refine TX.in_normal ?_
      exact TX.round (⟨i + 1, by omega, by omega, hS2⟩) (by show b - (i + 1) < b - i; omega) ⟨rfl, rfl, rfl, rfl, rfl, trivial⟩ (fun w1 hw => hw)
  · have q14 := of_decide_eq_false h14
    refine TL.end_ ?_
    refine TX.then_ ?_
    refine TC.condF rfl ?_
    refine TC.exit_ ?_
    refine TX.then_exit ?_
    refine TX.then_exit ?_
    refine TX.in_same ?_
    refine TX.then_ ?_
    refine TC.seq_ ?_
    refine TC.region ?_
    refine TL.val rfl rfl rfl (gives_assign rfl rfl) ?_
    refine TL.end_ ?_
    refine TX.then_ ?_
    refine TC.ret_ ?_
    exact ret_tmp Try.results67 rfl (fun w1 hw => ⟨false, ys, rfl, ⟨hP, fun e => by cases e⟩, pm_rowAt hw (k := 0) rfl, hw.mapEnd (fun q hq => by simp [hq])⟩)
end Go.Proofs.Ytleckflmckbheaa
