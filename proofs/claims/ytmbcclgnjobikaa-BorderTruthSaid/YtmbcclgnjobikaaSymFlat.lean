/-
  A walk by rules: slices whose elements have several cells each, of whatever kind: read, indexed, changed. No program is imported.
-/
import Derived.Test.YtmbcclgnjobikaaSymFn
import Derived.Test.YtmbcclgnjobikaaSymSeg
import Derived.Test.YtmbcclgnjobikaaSymCall
import Derived.Test.YtmbcclgnjobikaaSymMax
namespace Go.Proofs.Ytmbcclgnjobikaa
open Go.RowKit
set_option linter.unusedVariables false
set_option linter.unusedSimpArgs false
/-- the cells of a list's elements, one after the other -/
def flat {α : Type} (c : α → List Value) (l : List α) : List Value := l.flatMap c
/-- an element has k cells, each a value of one cell -/
structure Cel {α : Type} (c : α → List Value) (k : Nat) : Prop where
  len : ∀ x, (c x).length = k
  one : ∀ x, ∀ u ∈ c x, u.oneCell' = true
/-- a number as an element -/
def ic (q : IntKind) (a : Int) : List Value := [.int q a]
theorem ic_cel (q : IntKind) : Cel (ic q) 1 := ⟨fun _ => rfl, fun x u hu => by cases List.mem_singleton.1 hu; rfl⟩
/-- a slice as an element -/
def sgc {α : Type} (s : Sg α) : List Value := [s.val]
theorem sgc_cel {α : Type} : Cel (sgc (α := α)) 1 := ⟨fun _ => rfl, fun x u hu => by cases List.mem_singleton.1 hu; rfl⟩
theorem flat_ic (q : IntKind) (xs : List Int) : flat (ic q) xs = xs.map (Value.int q) := by
  induction xs with
  | nil => rfl
  | cons a l ih => show _ :: flat (ic q) l = _; rw [ih]; rfl
section
variable {α : Type} {c : α → List Value} {k : Nat}
theorem flat_app (a b : List α) : flat c (a ++ b) = flat c a ++ flat c b := by simp [flat]
theorem flat_cons (a : α) (b : List α) : flat c (a :: b) = c a ++ flat c b := rfl
theorem flat_one1 (a : α) : flat c [a] = c a := by simp [flat]
theorem flat_len (K : Cel c k) (l : List α) : (flat c l).length = l.length * k := by
  induction l with
  | nil => simp [flat]
  | cons f l ih => rw [flat_cons, List.length_append, ih, K.len, List.length_cons, Nat.succ_mul, Nat.add_comm]
theorem flat_ix (K : Cel c k) : ∀ {l : List α} {i : Nat} {x : α} (h : l[i]? = some x) (j : Nat) (hj : j < k), (flat c l)[i * k + j]? = (c x)[j]?
  | [], _, _, h, _, _ => by cases h
  | y :: l, 0, x, h, j, hj => by
    obtain rfl : y = x := by simpa using h
    rw [flat_cons, Nat.zero_mul, Nat.zero_add, List.getElem?_append_left (by rw [K.len]; exact hj)]
  | y :: l, i + 1, x, h, j, hj => by
    rw [flat_cons, List.getElem?_append_right (by rw [K.len, Nat.succ_mul]; omega), K.len, show (i + 1) * k + j - k = i * k + j by rw [Nat.succ_mul]; omega]
    exact flat_ix K (by simpa using h) j hj
theorem flat_cell (K : Cel c k) {l : List α} {i : Nat} {x : α} (h : l[i]? = some x) {w : World} {b o : Nat} (hc : ∀ (j : Nat) (u : Value), (flat c l)[j]? = some u → w.cell? ⟨b, o + j, none⟩ = some u) (j : Nat) (u : Value) (hu : (c x)[j]? = some u) : w.cell? ⟨b, o + i * k + j, none⟩ = some u := by
  have hj : j < k := by have := (List.getElem?_eq_some_iff.1 hu).1; rwa [K.len] at this
  rw [Nat.add_assoc]
  exact hc _ u (by rw [flat_ix K h j hj]; exact hu)
theorem flat_one (K : Cel c k) (l : List α) : ∀ u ∈ flat c l, u.oneCell' = true := by
  intro u hu
  simp only [flat, List.mem_flatMap] at hu
  obtain ⟨f, _, hu⟩ := hu
  exact K.one f u hu
theorem flat_row (K : Cel c k) {w0 : Base} {L : List Pc} {w : World} {q g n cc i : Nat} {e : TypeId} {l : List α} {x : α} (h : Pm w0 L w) (hk : L[q]? = some (.row (.slice (some ⟨g, 0, none⟩) n cc) e k n (flat c l))) (hx : l[i]? = some x) (j : Nat) (u : Value) (hu : (c x)[j]? = some u) : w.cell? ⟨g, 0 + i * k + j, none⟩ = some u := by
  have hj : j < k := by have := (List.getElem?_eq_some_iff.1 hu).1; rwa [K.len] at this
  rw [Nat.zero_add]
  exact pm_row h hk (by rw [flat_ix K hx j hj]; exact hu)
theorem flat_take (K : Cel c k) (l : List α) (i : Nat) : (flat c l).take (i * k) = flat c (l.take i) := by
  induction l generalizing i with
  | nil => simp [flat]
  | cons f l ih =>
    cases i with
    | zero => rw [Nat.zero_mul]; rfl
    | succ i => rw [flat_cons, List.take_append, List.take_of_length_le (by rw [K.len, Nat.succ_mul]; omega), K.len, show (i + 1) * k - k = i * k by rw [Nat.succ_mul]; omega, ih]; rfl
theorem flat_drop (K : Cel c k) (l : List α) (i : Nat) : (flat c l).drop (i * k) = flat c (l.drop i) := by
  induction l generalizing i with
  | nil => simp [flat]
  | cons f l ih =>
    cases i with
    | zero => rw [Nat.zero_mul]; rfl
    | succ i => rw [flat_cons, List.drop_append, List.drop_of_length_le (by rw [K.len, Nat.succ_mul]; omega), K.len, show (i + 1) * k - k = i * k by rw [Nat.succ_mul]; omega, ih, List.nil_append]; rfl
theorem flat_pos (K : Cel c k) {m : List α} {i : Nat} {x : α} (hx : m[i]? = some x) : flat c m = flat c (m.take i) ++ c x ++ flat c (m.drop (i + 1)) ∧ (flat c (m.take i)).length = i * k := by
  obtain ⟨hlt, e⟩ := List.getElem?_eq_some_iff.1 hx
  refine ⟨?_, by rw [flat_len K, List.length_take, Nat.min_eq_left (by omega)]⟩
  have h1 : m = m.take i ++ x :: m.drop (i + 1) := by rw [← e, List.getElem_cons_drop, List.take_append_drop]
  rw [← flat_one1 (c := c) x, ← flat_app, ← flat_app]
  rw [List.append_assoc]
  exact congrArg (flat c) h1
theorem mid_put {P c T v : List Value} {k q : Nat} (hP : P.length = k) (hq : q + v.length ≤ c.length) : (P ++ c ++ T).take (0 + k + q) ++ v ++ (P ++ c ++ T).drop (0 + k + q + v.length) = P ++ (c.take q ++ v ++ c.drop (q + v.length)) ++ T := by
  subst hP
  have h1 : (P ++ c ++ T).take (0 + P.length + q) = P ++ c.take q := by
    rw [List.append_assoc, show 0 + P.length + q = P.length + q by omega, List.take_append, List.take_of_length_le (by omega), Nat.add_sub_cancel_left, List.take_append_of_le_length (by omega)]
  have h2 : (P ++ c ++ T).drop (0 + P.length + q + v.length) = c.drop (q + v.length) ++ T := by
    rw [List.append_assoc, show 0 + P.length + q + v.length = P.length + (q + v.length) by omega, ← List.drop_drop, List.drop_left, List.drop_append_of_le_length hq]
  rw [h1, h2]
  simp only [List.append_assoc]
/-- cells q.. of element i are written over -/
theorem flat_put (K : Cel c k) {m : List α} {i q : Nat} {x y : α} {v : List Value} (hx : m[i]? = some x) (hq : q + v.length ≤ k) (hy : (c x).take q ++ v ++ (c x).drop (q + v.length) = c y) : (flat c m).take (0 + i * k + q) ++ v ++ (flat c m).drop (0 + i * k + q + v.length) = flat c (m.set i y) := by
  obtain ⟨h1, h2⟩ := flat_pos K hx
  have hlt := (List.getElem?_eq_some_iff.1 hx).1
  rw [h1, mid_put h2 (by rw [K.len]; exact hq), hy, List.set_eq_take_append_cons_drop, if_pos hlt, flat_app, List.append_assoc]
  rfl
theorem flat_hd (K : Cel c k) (l : List α) {m : Nat} (hm : l.length = m) : (flat c l).length = m * k := by rw [flat_len K, hm]
end
theorem Pm.pickT {w0 : Base} {w : World} {L P' T : List Pc} (h : Pm w0 L w) (n : Nat) (ks : List Nat) (hn : ks.Nodup) (hlt : ∀ k ∈ ks, k < n) (he : ks.map (fun k => L[k]?) = P'.map some) (hT : L.drop n = T) : Pm w0 (P' ++ T) w := by
  subst hT
  have hP := h.pick ks hn he
  have hL : Pm w0 (L.take n ++ L.drop n) w := by rw [List.take_append_drop]; exact h
  have ha := List.pairwise_append.1 hL.apart
  refine ⟨h.bel, fun q hq => (List.mem_append.1 hq).elim (hP.own q) fun h2 => hL.own q (List.mem_append_right _ h2), List.pairwise_append.2 ⟨hP.apart, ha.2.1, fun q hq r hr => ha.2.2 q ?_ r hr⟩, h.oth, h.low⟩
  obtain ⟨i, hi⟩ := List.getElem?_of_mem hq
  have e := congrArg (fun l => l[i]?) he
  simp only [List.getElem?_map, hi, Option.map_some] at e
  cases hk : ks[i]? with
  | none => rw [hk] at e; simp at e
  | some k =>
    rw [hk] at e
    simp only [Option.map_some, Option.some.injEq] at e
    have hkn := hlt k (List.mem_of_getElem? hk)
    refine List.mem_of_getElem? (i := k) ?_
    rw [List.getElem?_take_of_lt hkn]
    exact e
theorem reads_up_ {w : World} {B size n : Nat} {A : Option Addr} {xs : List Value} (h : Reads w B size A n xs) (hb : ∀ ad, A = some ad → ad.block < w.heap.size) : Reads w w.heap.size size A n xs :=
  ⟨h.1, fun hn => by obtain ⟨ad, h1, h2, h3⟩ := h.2 hn; exact ⟨ad, h1, hb ad h1, h3⟩⟩
theorem pm_row_lt_ {w0 : Base} {L : List Pc} {w : World} {A : Option Addr} {e : TypeId} {size n c k : Nat} {xs : List Value} (h : Pm w0 L w) (hk : L[k]? = some (.row (.slice A n c) e size n xs)) : ∀ ad, A = some ad → ad.block < w.heap.size := fun ad hA => by
  subst hA
  exact (Pc.lt (h.at_ hk) ad.block rfl).2
/-- a row of one's own is read -/
theorem pm_rd {w0 : Base} {L : List Pc} {w : World} {A : Option Addr} {e : TypeId} {size n c k : Nat} {xs : List Value} (h : Pm w0 L w) (hk : L[k]? = some (.row (.slice A n c) e size n xs)) : Reads w w.heap.size size A n xs := by
  obtain ⟨B, h8⟩ := pm_reads h hk
  exact reads_up_ h8 (pm_row_lt_ h hk)
theorem Reads.up {w0 : World} {w : World} {size n : Nat} {A : Option Addr} {xs : List Value} (h : Reads w0 w0.heap.size size A n xs) (hb : Below w0.heap.size w0 w) : Reads w w.heap.size size A n xs := (h.below hb).more hb.size
theorem Reads.headF {α : Type} {c : α → List Value} {k : Nat} (K : Cel c k) {w : World} {B n m : Nat} {A : Option Addr} {l : List α} (h : Reads w B k A n (flat c l)) (hm : m ≤ n) : Reads w B k A m (flat c (l.take m)) := by
  have hl : l.length * k = n * k := by have := h.1; rwa [flat_len K] at this
  refine ⟨?_, fun hn => ?_⟩
  · rw [← flat_take K, List.length_take, flat_len K, hl]
    exact Nat.min_eq_left (Nat.mul_le_mul_right k hm)
  · obtain ⟨ad, h1, h2, h3⟩ := h.2 (by omega)
    refine ⟨ad, h1, h2, fun j u hu => h3 j u ?_⟩
    rw [← flat_take K, List.getElem?_take] at hu
    split at hu
    · exact hu
    · cases hu
theorem Reads.tailF {α : Type} {c : α → List Value} {k : Nat} (K : Cel c k) {w : World} {B n m cap : Nat} {A : Option Addr} {l : List α} (h : Reads w B k A n (flat c l)) (hm : m ≤ n) (hc : n ≤ cap) : Reads w B k (if cap = m then A else A.map (·.add (m * k))) (n - m) (flat c (l.drop m)) := by
  rw [← flat_drop K]
  exact h.cut hm hc
section
variable {P : Program} {N : Fr} {Q : Exit → Act → World → Prop} {E : Env} {I S : World → Prop} {ops : Array Oper} {l : List Oper} {o : Oper} {f : Nat} {listed : Array Bool}
theorem still_bel {g : FuncId} {vs : Array Value} {w : World} {x : Ending} (h : Calls P g vs w fun e w' => e = x ∧ w' = w) : Calls P g vs w fun e w' => e = x ∧ Below w.heap.size w w' :=
  h.mono fun e w' hh => ⟨hh.1, by rw [hh.2]; exact Below.refl _ _⟩
/-! quiet drawn regions that go on -/
theorem TC.quietQ {id : Nat} {l : List Oper} (hm : P.follows .mixedOrders = true) (hB : Region.lexB .any l.toArray = true) (hI : ∀ w, I w → I { w with drawn := w.drawn + 1 })
    (h : TQ P N l.toArray (fun a => ∀ w, I w → Q .normal a w) l E I) : TC P N Q (.region id l.toArray true) E I := TC.quiet hm hB hI h fun a w ha hw => ha w hw
theorem TQ.fin {ops : Array Oper} (h : TX N Q .normal E I) : TQ P N ops (fun a => ∀ w, I w → Q .normal a w) [] E I := fun a ha w hw => h a w ha hw
theorem TQ.vsplit {R : Act → Prop} {d : Nat} {b : Bool} (hg : o.guard = none) (hd : o.dst = some d) (hN : Nat.blt d N.n = true) (hv : Gives P N o E I (.bool b)) (ht : b = true → TQ P N ops R l ((d, .bool true) :: E) I) (hf : b = false → TQ P N ops R l ((d, .bool false) :: E) I) : TQ P N ops R (o :: l) E I := by
  cases b with
  | true => exact TQ.val hg hd hN hv (ht rfl)
  | false => exact TQ.val hg hd hN hv (hf rfl)
theorem TS.vsplit {R : Act → World → Prop} {d : Nat} {b : Bool} (hg : o.guard = none) (hd : o.dst = some d) (hN : Nat.blt d N.n = true) (hv : Gives P N o E I (.bool b)) (ht : b = true → TS P N ops R l ((d, .bool true) :: E) I) (hf : b = false → TS P N ops R l ((d, .bool false) :: E) I) : TS P N ops R (o :: l) E I := by
  cases b with
  | true => exact TS.val hg hd hN hv (ht rfl)
  | false => exact TS.val hg hd hN hv (hf rfl)
theorem TQ.callsplit {w0 : Base} {L : List Pc} {R : Act → Prop} {d : Nat} {b : Bool} {g : FuncId} {fn : Func} {xs : List Operand} {ts : Array TypeId} {vs : List Value} (hg : o.guard = none) (hd : o.dst = some d) (hN : Nat.blt d N.n = true)
    (ho : o.op = .call { callee := .value (.func g), args := xs.toArray, argTypes := ts }) (hx : evs E xs = some vs) (hf : P.funcs[g]? = some fn) (hn : (fn.name == "runtime.NumGoroutine") = false) (hb : fn.body.isNone = false)
    (hc : ∀ w, Pm w0 L w → Calls P g vs.toArray w fun e w' => e = .returned (.bool b) ∧ Below w.heap.size w w') (ht : b = true → TQ P N ops R l ((d, .bool true) :: E) (Pm w0 L)) (hff : b = false → TQ P N ops R l ((d, .bool false) :: E) (Pm w0 L)) : TQ P N ops R (o :: l) E (Pm w0 L) := by
  cases b with
  | true => exact TQ.call hg hd hN ho hx hf hn hb (fun w hw => (hc w hw).mono fun e w' ⟨h1, h2⟩ => ⟨h1, hw.below h2⟩) (ht rfl)
  | false => exact TQ.call hg hd hN ho hx hf hn hb (fun w hw => (hc w hw).mono fun e w' ⟨h1, h2⟩ => ⟨h1, hw.below h2⟩) (hff rfl)
/-- three may come up -/
theorem TH.three {o1 o2 o3 : Oper} {l1 l2 l3 : Array Bool} (i j k : Nat) (hi : ops[i]? = some o1) (hj : ops[j]? = some o2) (hk : ops[k]? = some o3) (hr : Region.ready .any ops listed = [i, j, k]) (h1 : listed.setIfInBounds i true = l1) (h2 : listed.setIfInBounds j true = l2) (h3 : listed.setIfInBounds k true = l3) (hg1 : o1.guard = none) (hg2 : o2.guard = none) (hg3 : o3.guard = none)
    (g1 : TL P N ops (Exit.then (Hd P ops S Q f l1) (NoPanic Q)) [o1] E I) (g2 : TL P N ops (Exit.then (Hd P ops S Q f l2) (NoPanic Q)) [o2] E I) (g3 : TL P N ops (Exit.then (Hd P ops S Q f l3) (NoPanic Q)) [o3] E I) : TH P N ops S Q (f + 1) listed E I := fun a w ha hw => by
  subst h1 h2 h3
  refine wpAnyH_all hr (by simp) fun m hm => ?_
  have : m = i ∨ m = j ∨ m = k := by simpa using hm
  rcases this with rfl | rfl | rfl
  · exact op_of_list hi hg1 (g1 a w ha hw)
  · exact op_of_list hj hg2 (g2 a w ha hw)
  · exact op_of_list hk hg3 (g3 a w ha hw)
theorem bin_neb {t : TypeId} (ht : P.underlying t = some .bool) {x y : Operand} (a b : Bool) (w : World) : (do eqGuard .neq t x y (.bool a) (.bool b); binOp .neq t (.bool a) (.bool b) : Sem Value).run P w = .ok (.bool (a != b)) w := by
  have h : (eqGuard .neq t x y (.bool a) (.bool b) : Sem Unit).run P w = .ok () w := by simp [eqGuard, go_sem]
  have h2 : (binOp .neq t (.bool a) (.bool b) : Sem Value).run P w = .ok (.bool (a != b)) w := by
    have e : (Op.equalIn Op.maxDepth t (.bool a) (.bool b)).run P w = .ok (a == b) w := by
      rw [show Op.maxDepth = 9999 + 1 from rfl]
      exact run_equalIn_bool w 9999 t a b ht
    simp [binOp, Op.equal, go_sem, e]
    cases a <;> cases b <;> rfl
  simp [h, h2, go_sem]
theorem bin_quoi_ {P : Program} {m n r : Int} {xt : TypeId} (h0 : 0 ≤ m) (h1 : 0 < n) (hm : m < 9223372036854775808) (hr : m / n = r) (w : World) : (binOp .quo xt (.int .i64 m) (.int .i64 n)).run P w = .ok (.int .i64 r) w := by rw [← hr]; exact bin_quoi h0 h1 hm w
theorem bin_andNot {xt : TypeId} {k : IntKind} {m n : Int} (w : World) : (binOp .andNot xt (.int k m) (.int k n)).run P w = .ok (.int k (bits .andNot k m n)) w := by simp [binOp, go_sem]
end
end Go.Proofs.Ytmbcclgnjobikaa
