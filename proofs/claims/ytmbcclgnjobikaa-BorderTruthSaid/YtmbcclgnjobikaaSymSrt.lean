/-
  A walk by rules: a row of numbers of 32 bits that a function is handed and may change. No program is imported.
-/
import Derived.Test.YtmbcclgnjobikaaSortLaw
import Derived.Test.YtmbcclgnjobikaaSymMap
namespace Go.Proofs.Ytmbcclgnjobikaa
open Go.RowKit
set_option linter.unusedVariables false
set_option linter.unusedSimpArgs false
def uv (xs : List Int) : List Value := xs.map (Value.int .u32)
theorem uv_len (xs : List Int) : (uv xs).length = xs.length := by simp [uv]
theorem uv_at {xs : List Int} {i : Nat} (h : i < xs.length) : (uv xs)[i]? = some (.int .u32 (dx xs i)) := by
  unfold uv dx
  rw [List.getElem?_map, List.getD_eq_getElem?_getD, List.getElem?_eq_getElem h]
  rfl
theorem uv_set {xs : List Int} {i : Nat} (h : i < xs.length) (v : Int) : (uv xs).take i ++ [Value.int .u32 v] ++ (uv xs).drop (i + 1) = uv (xs.set i v) := by
  unfold uv
  rw [← List.map_take, ← List.map_drop, List.set_eq_take_append_cons_drop, if_pos h]
  simp
theorem uv_one (xs : List Int) : ∀ u ∈ uv xs, u.oneCell' = true := fun u hu => by
  obtain ⟨a, _, rfl⟩ := List.mem_map.1 hu
  rfl
/-- block g holds a row of numbers -/
def Rw (e : TypeId) (w : World) (g n c : Nat) (xs : List Int) : Prop := w.ownsRow g e 1 (.slice (some ⟨g, 0, none⟩) n c) n (uv xs)
theorem Rw.len {e : TypeId} {w : World} {g n c : Nat} {xs : List Int} (h : Rw e w g n c xs) : xs.length = n := by
  have := h.1
  rw [uv_len] at this
  omega
theorem Rw.obj {e : TypeId} {w : World} {g n c : Nat} {xs : List Int} (h : Rw e w g n c xs) : (∃ o, w.heap[g]? = some o) ∧ n ≤ c ∧ c ≤ maxLen := by
  rcases h.2 with ⟨e1, _⟩ | ⟨g', cap, cur, a, hb, hg, hn, hm, r⟩
  · cases e1
  · cases a
    exact ⟨⟨_, hg⟩, hn, hm⟩
theorem Pm.rowStart {e : TypeId} {w : World} {g n c : Nat} {xs : List Int} (h : Rw e w g n c xs) : Pm ⟨wbut w g, g⟩ (.row (.slice (some ⟨g, 0, none⟩) n c) e 1 n (uv xs) :: oths g w) w := by
  obtain ⟨⟨o, ho⟩, _⟩ := h.obj
  have hp := Pm.mapStart ho
  refine ⟨hp.bel, fun q hq => ?_, ?_, hp.oth, hp.low⟩
  · rcases List.mem_cons.1 hq with rfl | hq
    · exact h
    · exact hp.own q (List.mem_cons_of_mem _ hq)
  · have := List.pairwise_cons.1 hp.apart
    exact List.Pairwise.cons (fun q hq x hx => this.1 q hq x hx) this.2
section
variable {P : Program} {N : Fr} {Q : Exit → Act → World → Prop} {E : Env} {w0 : Base} {L : List Pc} {ops : Array Oper} {l : List Oper} {o : Oper}
theorem at_row {t e : TypeId} (ht : P.underlying t = some (.slice e)) (hs : ∀ w : World, (sizeOf e).run P w = .ok 1 w) (g n c i : Nat) (hi : i < n) {z : Int} (hz : z = (i : Int)) (w : World) :
    (Instr.indexAt t (.slice (some ⟨g, 0, none⟩) n c) (.int .i64 z)).run P w = .ok (.pointer (some ⟨g, i, none⟩)) w := by
  have := at_el (P := P) ht hs (A := some ⟨g, 0, none⟩) (b := g) (off := 0) rfl n c i hi hz w
  rwa [Nat.zero_add, Nat.mul_one] at this
theorem pm_rowAt {w : World} {k g n c : Nat} {e : TypeId} {xs : List Int} (h : Pm w0 L w) (hk : L[k]? = some (.row (.slice (some ⟨g, 0, none⟩) n c) e 1 n (uv xs))) : Rw e w g n c xs := by
  have h1 := h.at_ hk
  refine ⟨h1.1, ?_⟩
  rcases h1.2 with ⟨e1, _⟩ | ⟨g', cap, cur, a, hb, r⟩
  · cases e1
  · cases a
    exact .inr ⟨g, _, cur, rfl, Nat.le_refl _, r⟩
theorem Pm.rowTurn {w w' : World} {k g n c : Nat} {e : TypeId} {xs ys : List Int} (h : Pm w0 L w) (hk : L[k]? = some (.row (.slice (some ⟨g, 0, none⟩) n c) e 1 n (uv xs))) (hr : Rw e w' g n c ys) (hg : w.grownBy w' (some g)) : Pm w0 (L.set k (.row (.slice (some ⟨g, 0, none⟩) n c) e 1 n (uv ys))) w' := by
  have h1 := h.at_ hk
  have hb : w0.b ≤ g := (Pc.lt h1 g rfl).1
  exact h.turn hk hg (own_base hr hb) (fun g' hg' => .inl hg') (fun _ _ e => by cases e)
/-- a store of a number into row number k -/
theorem TL.uset {t e : TypeId} {x y : Operand} {g i k n c : Nat} {v : Int} {xs : List Int} (hg : o.guard = none) (hd : o.dst = none) (ho : o.op = .store t x y) (hx : ev E x = some (.pointer (some ⟨g, i, none⟩))) (hy : ev E y = some (.int .u32 v))
    (hk : L[k]? = some (.row (.slice (some ⟨g, 0, none⟩) n c) e 1 n (uv xs))) (hs : ∀ w : World, (sizeOf t).run P w = .ok 1 w) (hi : i < xs.length)
    (h : TL P N ops Q l E (Pm w0 (L.set k (.row (.slice (some ⟨g, 0, none⟩) n c) e 1 n (uv (xs.set i v)))))) : TL P N ops Q (o :: l) E (Pm w0 L) :=
  TL.rowset (vs := [.int .u32 v]) hg hd ho hx hy hk rfl hs (by intro u hu; rw [List.mem_singleton] at hu; subst hu; rfl) (by rw [uv_len]; exact hi) (uv_set hi v) h
/-- a number of row number k -/
theorem pm_loadU {t e : TypeId} {x : Operand} {g i k n c : Nat} {xs : List Int} (ho : o.op = .load t x) (hx : ev E x = some (.pointer (some ⟨g, i, none⟩))) (hag : ∀ w : World, (isAgg t).run P w = .ok false w)
    (hk : L[k]? = some (.row (.slice (some ⟨g, 0, none⟩) n c) e 1 n (uv xs))) (hi : i < xs.length) : Gives P N o E (Pm w0 L) (.int .u32 (dx xs i)) := pm_loadRow ho hx hag hk (uv_at hi)
/-- a call that may change row number k -/
theorem TL.pcallRw {α : Type} {d k g n c : Nat} {e : TypeId} {xs : List Int} {f : FuncId} {fn : Func} {es : List Operand} {ts : Array TypeId} {vs : List Value} (r : α → Value) (M : α → List Int → Prop) (hg : o.guard = none) (hd : o.dst = some d) (hN : Nat.blt d N.n = true)
    (ho : o.op = .call { callee := .value (.func f), args := es.toArray, argTypes := ts }) (hx : evs E es = some vs) (hf : P.funcs[f]? = some fn) (hn : (fn.name == "runtime.NumGoroutine") = false) (hb : fn.body.isNone = false)
    (hk : L[k]? = some (.row (.slice (some ⟨g, 0, none⟩) n c) e 1 n (uv xs))) (hc : ∀ w, Pm w0 L w → Rw e w g n c xs → Calls P f vs.toArray w fun en w' => ∃ x ys, en = .returned (r x) ∧ M x ys ∧ Rw e w' g n c ys ∧ w.grownBy w' (some g))
    (h : ∀ x ys, M x ys → TL P N ops Q l ((d, r x) :: E) (Pm w0 (L.set k (.row (.slice (some ⟨g, 0, none⟩) n c) e 1 n (uv ys))))) : TL P N ops Q (o :: l) E (Pm w0 L) :=
  TL.call (α := {y : α × List Int // M y.1 y.2}) (r := fun y => r y.1.1) (I' := fun y => Pm w0 (L.set k (.row (.slice (some ⟨g, 0, none⟩) n c) e 1 n (uv y.1.2)))) hg hd hN ho hx hf hn hb (fun w hw => (hc w hw (pm_rowAt hw hk)).mono fun en w' ⟨x, ys, he, hM, hr, hgr⟩ => ⟨⟨(x, ys), hM⟩, he, hw.rowTurn hk hr hgr⟩) (fun y => h y.1.1 y.1.2 y.2)
/-- such a call whose result goes nowhere -/
theorem TL.pcallRw0 {α : Type} {k g n c : Nat} {e : TypeId} {xs : List Int} {f : FuncId} {fn : Func} {es : List Operand} {ts : Array TypeId} {vs : List Value} (M : List Int → Prop) (hg : o.guard = none) (hd : o.dst = none)
    (ho : o.op = .call { callee := .value (.func f), args := es.toArray, argTypes := ts }) (hx : evs E es = some vs) (hf : P.funcs[f]? = some fn) (hn : (fn.name == "runtime.NumGoroutine") = false) (hb : fn.body.isNone = false)
    (hk : L[k]? = some (.row (.slice (some ⟨g, 0, none⟩) n c) e 1 n (uv xs))) (hc : ∀ w, Pm w0 L w → Rw e w g n c xs → Calls P f vs.toArray w fun en w' => ∃ ys, en = .returned (.tuple #[]) ∧ M ys ∧ Rw e w' g n c ys ∧ w.grownBy w' (some g))
    (h : ∀ ys, M ys → TL P N ops Q l E (Pm w0 (L.set k (.row (.slice (some ⟨g, 0, none⟩) n c) e 1 n (uv ys))))) : TL P N ops Q (o :: l) E (Pm w0 L) := fun a w ha hw =>
  wpList_plain hg fun K hK => by
    unfold Oper.wp
    rw [enters ha ho hx hf hn hb, Oper.upon_enter]
    refine (hc w hw (pm_rowAt hw hk)).mono ?_
    rintro e w' ⟨ys, rfl, h1, h2, h3⟩
    show K (a.put o.dst _) w'
    rw [hd]
    exact hK _ _ (h ys h1 _ _ (ha.put0 _) (hw.rowTurn hk h2 h3))
theorem bin_quoi {m n : Int} {xt : TypeId} (h0 : 0 ≤ m) (h1 : 0 < n) (hm : m < 9223372036854775808) (w : World) : (binOp .quo xt (.int .i64 m) (.int .i64 n)).run P w = .ok (.int .i64 (m / n)) w := by
  have hne : n ≠ 0 := by omega
  have hd : m / n ≤ m := Int.ediv_le_self _ h0
  have hd0 : 0 ≤ m / n := Int.ediv_nonneg h0 (by omega)
  have : IntKind.wrap .i64 (m.tdiv n) = m / n := by
    rw [Int.tdiv_eq_ediv_of_nonneg h0]
    simp only [IntKind.wrap_i64]; omega
  simp [binOp, go_sem, hne, this]
end
end Go.Proofs.Ytmbcclgnjobikaa
