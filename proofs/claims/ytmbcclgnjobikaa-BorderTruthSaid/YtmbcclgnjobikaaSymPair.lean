/-
  A walk by rules: functions of two results; library functions without a body; comparisons whose answer is known. No program is imported.
-/
import Derived.Test.YtmbcclgnjobikaaSymCod
import Derived.Laws.Externs
namespace Go.Proofs.Ytmbcclgnjobikaa
open Go.RowKit
set_option linter.unusedVariables false
set_option linter.unusedSimpArgs false
section
variable {P : Program} {N : Fr} {Q : Exit → Act → World → Prop} {E : Env} {w0 : Base} {L : List Pc} {ops : Array Oper} {l : List Oper} {o : Oper} {I : World → Prop}
theorem TL.fact {p : Prop} (hp : ∀ w, I w → p) (h : p → TL P N ops Q l E I) : TL P N ops Q l E I := fun a w ha hw => h (hp w hw) a w ha hw
theorem gives_extract {x : Operand} {i : Nat} {vs : Array Value} {v : Value} (ho : o.op = .extract x i) (hx : ev E x = some (.tuple vs)) (hv : vs[i]? = some v) : Gives P N o E I v := fun a w ha _ => by
  unfold execOp; rw [ho]
  simp [ha.eval hx, Instr.extract, hv]
theorem ret_pair {fn : Func} {t u : Tmp} {v1 v2 : Value} {R : Ending → World → Prop} (hr : fn.results = #[.tmp t, .tmp u]) (h1 : look E t = some v1) (h2 : look E u = some v2) (hR : ∀ w, I w → R (.returned (.tuple #[v1, v2])) w) (hD : N.ds = [] := by rfl) : TX N (bodyPost P fn R) .ret E I := fun a w ha hw =>
  ⟨ha.defers.trans hD, .tuple #[v1, v2], by rw [results_tmp2 hr]; have e1 := ha.slot t _ h1; have e2 := ha.slot u _ h2; simp [e1, e2], hR w hw⟩
/-- a call that hands back a new row and a value -/
theorem TL.pcallPair {d : Nat} {f : FuncId} {fn : Func} {xs : List Operand} {ts : Array TypeId} {vs : List Value} {e : TypeId} {size n : Nat} {ys : List Value} {v : Value} (hg : o.guard = none) (hd : o.dst = some d) (hN : Nat.blt d N.n = true)
    (ho : o.op = .call { callee := .value (.func f), args := xs.toArray, argTypes := ts }) (hx : evs E xs = some vs) (hf : P.funcs[f]? = some fn) (hn : (fn.name == "runtime.NumGoroutine") = false) (hb : fn.body.isNone = false)
    (hc : ∀ w, Pm w0 L w → Calls P f vs.toArray w fun en w' => ∃ A c, en = .returned (.tuple #[.slice A n c, v]) ∧ n ≤ c ∧ c ≤ maxLen ∧ w'.ownsRow w.heap.size e size (.slice A n c) n ys ∧ Below w.heap.size w w')
    (h : ∀ A c, n ≤ c → c ≤ maxLen → TL P N ops Q l ((d, .tuple #[.slice A n c, v]) :: E) (Pm w0 (.row (.slice A n c) e size n ys :: L))) : TL P N ops Q (o :: l) E (Pm w0 L) :=
  TL.call (α := { p : Option Addr × Nat // n ≤ p.2 ∧ p.2 ≤ maxLen }) (r := fun p => .tuple #[.slice p.1.1 n p.1.2, v]) (I' := fun p => Pm w0 (.row (.slice p.1.1 n p.1.2) e size n ys :: L)) hg hd hN ho hx hf hn hb
    (fun w hw => (hc w hw).mono fun en w' ⟨A, c, he, h1, h2, h3, h4⟩ => ⟨⟨(A, c), h1, h2⟩, he, hw.add h4 h3⟩) (fun p => h p.1.1 p.1.2 p.2.1 p.2.2)
/-- a function of the library that has no body -/
theorem gives_extern {f : FuncId} {fn : Func} {xs : List Operand} {ts : Array TypeId} {vs : List Value} {e : Array Value → Sem Value} {v : Value} (ho : o.op = .call { callee := .value (.func f), args := xs.toArray, argTypes := ts }) (hx : evs E xs = some vs)
    (hf : P.funcs[f]? = some fn) (hname : (fn.name == "runtime.NumGoroutine") = false) (hb : fn.body.isNone = true) (hn : Extern.findNext fn = none) (he : Extern.find fn = some e) (hv : ∀ w : World, (e vs.toArray).run P w = .ok v w) : Gives P N o E I v := fun a w ha _ => by
  unfold execOp; rw [ho]
  have harr : xs.toArray.map a.eval = vs.toArray := by rw [List.map_toArray, ha.evals hx]
  have hfn : a.eval (.func f) = .func (.func f) #[] #[] := rfl
  simp only [resolve, harr, hfn, Deferred.ofValue]
  simp [invoke, run_callFunc_extern hf hname hb hn he, hv, go_sem]
theorem gives_lenL {s : Operand} {t : TypeId} {b : List Int} (ho : o.op = .call { callee := .builtin .len, args := #[s], argTypes := #[t] }) (ht : P.underlying t = some .string) (hs : ev E s = some (.string (strOfNums b))) : Gives P N o E I (.int .i64 (b.length : Int)) := by
  have := gives_lenS (N := N) (I := I) ho ht hs
  rwa [strOfNums_size] at this
variable {xt : TypeId} {k : IntKind} {m n : Int}
theorem bin_lss_t (h : m < n) (w : World) : (binOp .lss xt (.int k m) (.int k n)).run P w = .ok (.bool true) w := by rw [bin_lss, decide_eq_true h]
theorem bin_lss_f (h : ¬ m < n) (w : World) : (binOp .lss xt (.int k m) (.int k n)).run P w = .ok (.bool false) w := by rw [bin_lss, decide_eq_false h]
theorem bin_gtr_t (h : m > n) (w : World) : (binOp .gtr xt (.int k m) (.int k n)).run P w = .ok (.bool true) w := by rw [bin_gtr, decide_eq_true h]
theorem bin_gtr_f (h : ¬ m > n) (w : World) : (binOp .gtr xt (.int k m) (.int k n)).run P w = .ok (.bool false) w := by rw [bin_gtr, decide_eq_false h]
theorem bin_eql_t (h : m = n) (w : World) : (binOp .eql xt (.int k m) (.int k n)).run P w = .ok (.bool true) w := by rw [bin_eql, decide_eq_true h]
theorem bin_eql_f (h : ¬ m = n) (w : World) : (binOp .eql xt (.int k m) (.int k n)).run P w = .ok (.bool false) w := by rw [bin_eql, decide_eq_false h]
theorem bin_neq_t (h : m ≠ n) (w : World) : (binOp .neq xt (.int k m) (.int k n)).run P w = .ok (.bool true) w := by rw [bin_neq, decide_eq_true h]
theorem bin_neq_f (h : m = n) (w : World) : (binOp .neq xt (.int k m) (.int k n)).run P w = .ok (.bool false) w := by rw [bin_neq, decide_eq_false (by simpa using h)]
theorem bin_remk (h0 : 0 ≤ m) (h1 : 0 < n) (w : World) : (binOp .rem xt (.int k m) (.int k n)).run P w = .ok (.int k (m % n)) w := by
  have hz : n ≠ 0 := by omega
  have := Int.tmod_eq_emod_of_nonneg (a := m) (b := n) h0
  simp [binOp, go_sem, Op.intDiv, hz, this]
/-- an operation that gives a bool: both ways -/
theorem TL.vsplit {d : Nat} {b : Bool} (hg : o.guard = none) (hd : o.dst = some d) (hN : Nat.blt d N.n = true) (hv : Gives P N o E I (.bool b)) (ht : b = true → TL P N ops Q l ((d, .bool true) :: E) I) (hf : b = false → TL P N ops Q l ((d, .bool false) :: E) I) : TL P N ops Q (o :: l) E I := by
  cases b with
  | true => exact TL.val hg hd hN hv (ht rfl)
  | false => exact TL.val hg hd hN hv (hf rfl)
/-- a call that hands back a bool: both ways -/
theorem TL.callsplit {d : Nat} {b : Bool} {f : FuncId} {fn : Func} {xs : List Operand} {ts : Array TypeId} {vs : List Value} (hg : o.guard = none) (hd : o.dst = some d) (hN : Nat.blt d N.n = true)
    (ho : o.op = .call { callee := .value (.func f), args := xs.toArray, argTypes := ts }) (hx : evs E xs = some vs) (hf : P.funcs[f]? = some fn) (hn : (fn.name == "runtime.NumGoroutine") = false) (hb : fn.body.isNone = false)
    (hc : ∀ w, Pm w0 L w → Calls P f vs.toArray w fun e w' => e = .returned (.bool b) ∧ Below w.heap.size w w') (ht : b = true → TL P N ops Q l ((d, .bool true) :: E) (Pm w0 L)) (hf' : b = false → TL P N ops Q l ((d, .bool false) :: E) (Pm w0 L)) : TL P N ops Q (o :: l) E (Pm w0 L) := by
  cases b with
  | true => exact TL.pcall1 hg hd hN ho hx hf hn hb hc (ht rfl)
  | false => exact TL.pcall1 hg hd hN ho hx hf hn hb hc (hf' rfl)
theorem TC.condT {c : Operand} {x y : Code} (hc : ev E c = some (.bool true)) (h : TC P N Q x E I) : TC P N Q (.cond c x y) E I := TC.split hc (fun _ => h) (fun e => by cases e)
theorem TC.condF {c : Operand} {x y : Code} (hc : ev E c = some (.bool false)) (h : TC P N Q y E I) : TC P N Q (.cond c x y) E I := TC.split hc (fun e => by cases e) (fun _ => h)
theorem bool_t {p : Prop} [Decidable p] (h : p) : Ending.returned (.bool true) = .returned (.bool (decide p)) := by rw [decide_eq_true h]
theorem bool_f {p : Prop} [Decidable p] (h : ¬ p) : Ending.returned (.bool false) = .returned (.bool (decide p)) := by rw [decide_eq_false h]
theorem gives_field {t : TypeId} {x : Operand} {i g off : Nat} {v : Value} (ho : o.op = .fieldAddr t x i) (hx : ev E x = some (.pointer (some ⟨g, off, none⟩))) (hv : ∀ w : World, (Instr.fieldAt t (.pointer (some ⟨g, off, none⟩)) i).run P w = .ok v w) : Gives P N o E I v := fun a w ha _ => by
  unfold execOp; rw [ho]
  simp only [ha.eval hx, Sem.run_bind, hv, Result.andThen_ok, Sem.run_pure]
/-- an object whose first cells are these bytes -/
def HoldsB (o : Obj) (l : List Int) : Prop := ∃ cs t f, o = .cells cs t f ∧ ∀ (j : Nat) (x : Int), l[j]? = some x → cs[j]? = some (Value.int .u8 x)
theorem byt_obj {w : World} {g n : Nat} {o : Obj} {l : List Int} (h : w.heap[g]? = some o) (ho : HoldsB o l) (hl : Bs l) (hn : l.length = n) : Byt w w.heap.size (some ⟨g, 0, none⟩) n l := by
  subst hn
  obtain ⟨cs, t, f, rfl, hc⟩ := ho
  refine ⟨⟨by simp [bv], fun _ => ⟨_, rfl, (Array.getElem?_eq_some_iff.1 h).1, fun j u hu => ?_⟩⟩, hl⟩
  have : (⟨g, 0, none⟩ : Addr).add j = ⟨g, j, none⟩ := by unfold Addr.add; split <;> simp_all
  rw [this, cell_of_row w g j _ t f h]
  simp only [bv, List.getElem?_map] at hu
  cases hj : l[j]? with
  | none => rw [hj] at hu; cases hu
  | some x => rw [hj] at hu; cases hu; exact hc j x hj
theorem holds_row {e : TypeId} {f : Nat × Nat} {l : List Int} (hl : Bs l) (cap : Nat) : HoldsB (.cells (bytesRow (strOfNums l) cap) e f) l := by
  refine ⟨_, _, _, rfl, fun j x hj => ?_⟩
  have hlt : j < l.length := (List.getElem?_eq_some_iff.1 hj).1
  unfold bytesRow
  rw [Array.getElem?_append_left (by rw [Array.size_map]; show j < (strOfNums l).size; rw [strOfNums_size]; exact hlt)]
  simp only [strOfNums, Array.getElem?_map, List.getElem?_toArray, List.getElem?_map, hj, Option.map_some]
  rw [u8_back (hl x (List.mem_of_getElem? hj))]
/-- the bytes of a string -/
theorem TL.bytesOf {d n : Nat} {t u e : TypeId} {x : Operand} {b : List Int} (hg : o.guard = none) (hd : o.dst = some d) (hN : Nat.blt d N.n = true) (ho : o.op = .convert t u x) (hx : ev E x = some (.string (strOfNums b)))
    (hs : P.underlying t = some .string) (hu : P.underlying u = some (.slice e)) (he : P.underlying e = some (.int .u8)) (hb : Bs b) (hn : b.length = n) (hlim : n ≤ maxLen)
    (h : ∀ g c o', n ≤ c → c ≤ maxLen → HoldsB o' b → TL P N ops Q l ((d, .slice (some ⟨g, 0, none⟩) n c) :: E) (Pm w0 (.oth g o' :: L))) : TL P N ops Q (o :: l) E (Pm w0 L) := by
  subst hn
  refine TL.run (α := { p : Nat × Nat × Obj // b.length ≤ p.2.1 ∧ p.2.1 ≤ maxLen ∧ HoldsB p.2.2 b }) (r := fun p => .slice (some ⟨p.1.1, 0, none⟩) b.length p.1.2.1) (I' := fun p => Pm w0 (.oth p.1.1 p.1.2.2 :: L)) hg hd hN (fun a w ha hw => ?_) (fun p => h _ _ _ p.2.1 p.2.2.1 p.2.2.2)
  have hr := run_bytes_of_string (P := P) w t u e (strOfNums b) hs hu he
  rw [strOfNums_size] at hr
  obtain ⟨ob, hob⟩ : ∃ ob : Obj, ob = .cells (bytesRow (strOfNums b) (grownCap w b.length 0 e)) e ((bytesRow (strOfNums b) (grownCap w b.length 0 e)).size, (bytesRow (strOfNums b) (grownCap w b.length 0 e)).size + 1) := ⟨_, rfl⟩
  rw [← hob] at hr
  have hH : HoldsB ob b := by rw [hob]; exact holds_row hb _
  have hbel : Below w.heap.size w (w.drew.alloc ob) := ((Below.refl _ _).drew).alloc (Nat.le_refl _) ob
  have hok : Pc.ok w.heap.size (w.drew.alloc ob) (.oth w.heap.size ob) := ⟨heap_alloc_new w.drew ob, Nat.le_refl _⟩
  refine ⟨⟨(w.heap.size, grownCap w b.length 0 e, ob), grownCap_ge _ _ _ _, grownCap_le_maxLen _ _ _ _ hlim, hH⟩, w.drew.alloc ob, ?_, hw.add hbel hok⟩
  unfold execOp; rw [ho]
  simp only [ha.eval hx, Sem.run_bind, hr, Result.andThen_ok, Sem.run_pure]
theorem Pm.ne {w : World} {i j g g' : Nat} {p q : Pc} (h : Pm w0 L w) (hi : L[i]? = some p) (hj : L[j]? = some q) (hij : i < j) (hp : p.key = some g) (hq : q.key = some g') : g ≠ g' := by
  intro e
  subst e
  have := List.pairwise_iff_getElem.1 h.apart i j (List.getElem?_eq_some_iff.1 hi).1 (List.getElem?_eq_some_iff.1 hj).1 hij g (by rw [(List.getElem?_eq_some_iff.1 hi).2]; exact hp)
  rw [(List.getElem?_eq_some_iff.1 hj).2] at this
  exact this hq
end
end Go.Proofs.Ytmbcclgnjobikaa
