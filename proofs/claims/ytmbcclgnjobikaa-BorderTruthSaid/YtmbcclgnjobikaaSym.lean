/-
  A walk by rules: the frame as a short list of the slots that matter, the memory as one assertion. No program is imported.
-/
import Derived.Test.YtmbcclgnjobikaaBase
import Derived.Deep.Quiet
import Derived.StillTail
namespace Go.Proofs.Ytmbcclgnjobikaa
open Go.RowKit
set_option linter.unusedVariables false
set_option linter.unusedSimpArgs false

/-! ### The frame -/
abbrev Env := List (Nat × Value)
def look : Env → Nat → Option Value
  | [], _ => none
  | (k, v) :: r, t => bif Nat.beq k t then some v else look r t
/-- what an operand holds -/
def ev (E : Env) : Operand → Option Value
  | .tmp t => look E t
  | .const v => some v
  | .global g => some (.pointer (some ⟨g, 0, none⟩))
  | .func f => some (.func (.func f) #[] #[])
/-- a frame: how many slots; what is deferred -/
structure Fr where
  n : Nat
  ds : List Deferred
instance (k : Nat) : OfNat Fr k := ⟨⟨k, []⟩⟩
structure EnvOk (N : Fr) (E : Env) (a : Act) : Prop where
  defers : a.defers = N.ds
  size : a.tmps.size = N.n
  slot : ∀ t v, look E t = some v → a.tmps[t]? = some v
theorem EnvOk.eval {N : Fr} {E : Env} {a : Act} (h : EnvOk N E a) {x : Operand} {v : Value} (hx : ev E x = some v) : a.eval x = v := by
  cases x with
  | tmp t =>
    have := h.slot t v hx
    simp [Act.eval, this]
  | const u => simpa [ev, Act.eval] using hx
  | global g => simpa [ev, Act.eval] using hx
  | func f => simpa [ev, Act.eval] using hx
theorem EnvOk.put {N : Fr} {E : Env} {a : Act} (h : EnvOk N E a) (d : Nat) (v : Value) (hd : d < N.n) : EnvOk N ((d, v) :: E) (a.put (some d) v) := by
  refine ⟨h.defers, by simp [Act.put, h.size], fun t u hu => ?_⟩
  simp only [look] at hu
  by_cases e : d = t
  · subst e
    have : Nat.beq d d = true := by simp
    rw [this] at hu
    simp only [cond_true, Option.some.injEq] at hu
    subst hu
    simp [Act.put, h.size, hd]
  · have : Nat.beq d t = false := by
      cases hb : Nat.beq d t with
      | false => rfl
      | true => exact absurd (Nat.eq_of_beq_eq_true hb) e
    rw [this] at hu
    simp only [cond_false] at hu
    have := h.slot t u hu
    simp [Act.put, Array.getElem?_setIfInBounds, e, this]
theorem EnvOk.put0 {N : Fr} {E : Env} {a : Act} (h : EnvOk N E a) (v : Value) : EnvOk N E (a.put none v) := h
/-- fewer slots are known -/
theorem EnvOk.weak {N : Fr} {E E' : Env} {a : Act} (h : EnvOk N E a) (hE : ∀ t v, look E' t = some v → look E t = some v) : EnvOk N E' a := ⟨h.defers, h.size, fun t v hv => h.slot t v (hE t v hv)⟩

/-! ### What is to be shown of code, of operations in order, of a quiet region -/
section
variable (P : Program) (N : Fr)
def TC (Q : Exit → Act → World → Prop) (c : Code) (E : Env) (I : World → Prop) : Prop := ∀ a w, EnvOk N E a → I w → c.wp P Q a w
def TL (ops : Array Oper) (Q : Exit → Act → World → Prop) (l : List Oper) (E : Env) (I : World → Prop) : Prop := ∀ a w, EnvOk N E a → I w → wpList P ops Q l a w
def TQ (ops : Array Oper) (R : Act → Prop) (l : List Oper) (E : Env) (I : World → Prop) : Prop := ∀ a, EnvOk N E a → wpQuiet P ops I R l a
/-- the operation yields this value and does nothing else -/
def Gives (o : Oper) (E : Env) (I : World → Prop) (v : Value) : Prop := ∀ a w, EnvOk N E a → I w → (execOp a.eval o).run P w = .ok (.value v) w
end
section
variable {P : Program} {N : Fr} {Q : Exit → Act → World → Prop} {E : Env} {I : World → Prop}

theorem TC.seq {x y : Code} {J : Act → World → Prop} (h : TC P N (Exit.then J Q) x E I) (hJ : ∀ a w, J a w → y.wp P Q a w) : TC P N Q (.seq x y) E I :=
  fun a w ha hw => wp_seq (Code.wp_mono (fun e a' w' q => by cases e <;> first | exact hJ _ _ q | exact q) (h a w ha hw))
/-- what comes next, named by what is known there -/
def Nx (N : Fr) (E : Env) (I : World → Prop) : Act → World → Prop := fun a w => EnvOk N E a ∧ I w
theorem TC.seq1 {x y : Code} {E' : Env} {I' : World → Prop} (h : TC P N (Exit.then (Nx N E' I') Q) x E I) (hy : TC P N Q y E' I') : TC P N Q (.seq x y) E I :=
  TC.seq h fun a w q => hy a w q.1 q.2
theorem TC.skip {J : Act → World → Prop} (h : ∀ a w, EnvOk N E a → I w → J a w) : TC P N (Exit.then J Q) .skip E I := fun a w ha hw => wp_skip (h a w ha hw)
theorem TC.region {id : Nat} {l : List Oper} (h : TL P N l.toArray Q l E I) : TC P N Q (.region id l.toArray false) E I := fun a w ha hw => wp_region_lit (h a w ha hw)
theorem TC.quiet {id : Nat} {l : List Oper} {R : Act → Prop} (hm : P.follows .mixedOrders = true) (hB : Region.lexB .any l.toArray = true) (hI : ∀ w, I w → I { w with drawn := w.drawn + 1 })
    (h : TQ P N l.toArray R l E I) (hR : ∀ a w, R a → I w → Q .normal a w) : TC P N Q (.region id l.toArray true) E I := fun a w ha hw =>
  wp_region_quiet (C := I) hm hB (hI w hw) (by
    have := h a ha
    have hmono : ∀ (l' : List Oper) (a : Act), wpQuiet P l.toArray I R l' a → wpQuiet P l.toArray I (fun a' => ∀ w', I w' → Q .normal a' w') l' a := by
      intro l'
      induction l' with
      | nil => exact fun a hq w' hw' => hR a w' hq hw'
      | cons o r ih =>
        intro a hq
        simp only [wpQuiet] at hq ⊢
        split
        · rename_i hwt; rw [if_pos hwt] at hq; exact Oper.quiet_mono (fun a' => ih a') hq
        · rename_i hwt; rw [if_neg hwt] at hq; exact ih _ hq
    simpa using hmono l a this)
theorem TC.split {c : Operand} {x y : Code} {t : Bool} (hc : ev E c = some (.bool t)) (ht : t = true → TC P N Q x E I) (hf : t = false → TC P N Q y E I) : TC P N Q (.cond c x y) E I := fun a w ha hw =>
  wp_cond_split (ha.eval hc) (fun e => ht e a w ha hw) (fun e => hf e a w ha hw)
theorem TC.block {id : Nat} {c : Code} (h : TC P N (Exit.inBlock id Q) c E I) : TC P N Q (.block id c) E I := fun a w ha hw => wp_block (h a w ha hw)
theorem TC.exit {id : Nat} (h : ∀ a w, EnvOk N E a → I w → Q (.exit id) a w) : TC P N Q (.exit id) E I := fun a w ha hw => wp_exit (h a w ha hw)
theorem TC.ret (h : ∀ a w, EnvOk N E a → I w → Q .ret a w) : TC P N Q .ret E I := fun a w ha hw => wp_ret (h a w ha hw)

/-! ### Operations, one after the other -/
section
variable {ops : Array Oper} {l : List Oper} {o : Oper}
theorem TL.nil (h : ∀ a w, EnvOk N E a → I w → Q .normal a w) : TL P N ops Q [] E I := fun a w ha hw => h a w ha hw
theorem TL.val {d : Nat} {v : Value} (hg : o.guard = none) (hd : o.dst = some d) (hN : Nat.blt d N.n = true) (hv : Gives P N o E I v) (h : TL P N ops Q l ((d, v) :: E) I) : TL P N ops Q (o :: l) E I := fun a w ha hw =>
  wpList_plain hg fun K hK => by
    unfold Oper.wp
    rw [hv a w ha hw]
    show K (a.put o.dst v) w
    rw [hd]
    exact hK _ _ (h _ _ (ha.put d v (by simpa [Nat.blt_eq] using hN)) hw)
theorem TQ.nil {R : Act → Prop} (h : ∀ a, EnvOk N E a → R a) : TQ P N ops R [] E I := fun a ha => h a ha
theorem TQ.val {R : Act → Prop} {d : Nat} {v : Value} (hg : o.guard = none) (hd : o.dst = some d) (hN : Nat.blt d N.n = true) (hv : Gives P N o E I v) (h : TQ P N ops R l ((d, v) :: E) I) : TQ P N ops R (o :: l) E I := fun a ha => by
  unfold wpQuiet
  rw [if_pos (by simp [Region.wanted, hg])]
  refine ⟨v, fun w hw => ?_, ?_⟩
  · unfold Oper.quietAt; rw [hv a w ha hw]; exact ⟨rfl, rfl⟩
  · rw [hd]; exact h _ (ha.put d v (by simpa [Nat.blt_eq] using hN))
end

/-! ### What operations give -/
section
variable {o : Oper}
theorem gives_move {x : Operand} {v : Value} (ho : o.op = .move x) (hx : ev E x = some v) : Gives P N o E I v := fun a w ha _ => by
  unfold execOp; rw [ho]; simp [ha.eval hx]
theorem gives_assign {x : Operand} {v : Value} (ho : o.op = .assign x) (hx : ev E x = some v) : Gives P N o E I v := fun a w ha _ => by
  unfold execOp; rw [ho]; simp [ha.eval hx]
/-- an operator on two numbers -/
theorem gives_bin {op : BinOp} {xt yt : TypeId} {x y : Operand} {k k' : IntKind} {m n : Int} {v : Value} (ho : o.op = .binOp op xt x y yt) (hx : ev E x = some (.int k m)) (hy : ev E y = some (.int k' n))
    (hv : ∀ w : World, (binOp op xt (.int k m) (.int k' n)).run P w = .ok v w) : Gives P N o E I v := fun a w ha _ => by
  have hgd : (eqGuard op xt x y (.int k m) (.int k' n)).run P w = .ok () w := by
    cases op <;> simp [eqGuard]
  unfold execOp; rw [ho]
  simp only [ha.eval hx, ha.eval hy, Sem.run_bind, hgd, Result.andThen_ok, hv, Sem.run_pure]
theorem bin_add {xt : TypeId} {k : IntKind} {m n : Int} (w : World) : (binOp .add xt (.int k m) (.int k n)).run P w = .ok (.int k (k.wrap (m + n))) w := by simp [binOp, go_sem]
theorem bin_bits {op : BinOp} {xt : TypeId} {k : IntKind} {m n : Int} (h : op = .and ∨ op = .or ∨ op = .xor) (w : World) : (binOp op xt (.int k m) (.int k n)).run P w = .ok (.int k (bits op k m n)) w := by
  rcases h with rfl | rfl | rfl <;> simp [binOp, go_sem]
theorem gives_not {xt : TypeId} {x : Operand} {k : IntKind} {n : Int} (ho : o.op = .unOp .xor xt x) (hx : ev E x = some (.int k n)) : Gives P N o E I (.int k (bits .xor k (if k.signed then -1 else k.max) n)) := fun a w ha _ => by
  unfold execOp; rw [ho]
  simp only [ha.eval hx]
  simp [Op.unary, go_sem]
theorem gives_at {t : TypeId} {x i : Operand} {vx vi v : Value} (ho : o.op = .indexAddr t x i) (hx : ev E x = some vx) (hi : ev E i = some vi) (hv : ∀ w : World, (Instr.indexAt t vx vi).run P w = .ok v w) : Gives P N o E I v := fun a w ha _ => by
  unfold execOp; rw [ho]
  simp only [ha.eval hx, ha.eval hi, Sem.run_bind, hv, Result.andThen_ok, Sem.run_pure]
theorem gives_load {t : TypeId} {x : Operand} {p : Addr} {v : Value} (ho : o.op = .load t x) (hx : ev E x = some (.pointer (some p))) (hag : ∀ w : World, (isAgg t).run P w = .ok false w) (hc : ∀ w, I w → w.cell? p = some v) : Gives P N o E I v := fun a w ha hw => by
  unfold execOp; rw [ho]
  simp only [ha.eval hx]
  simp [Instr.loadAt, Instr.sureAddr, loadVar, hag, hc w hw, go_sem]
end
/-! ### Calls -/
def evs (E : Env) : List Operand → Option (List Value)
  | [] => some []
  | x :: r => match ev E x, evs E r with
    | some v, some vs => some (v :: vs)
    | _, _ => none
theorem EnvOk.evals {a : Act} (h : EnvOk N E a) : ∀ {xs : List Operand} {vs : List Value}, evs E xs = some vs → xs.map a.eval = vs
  | [], vs, hx => by simp [evs] at hx; simp [hx]
  | x :: r, vs, hx => by
    simp only [evs] at hx
    split at hx
    · rename_i v vr h1 h2
      injection hx with hx
      subst hx
      simp [h.eval h1, EnvOk.evals h h2]
    · cases hx
theorem enters {o : Oper} {a : Act} {w : World} {f : FuncId} {fn : Func} {xs : List Operand} {ts : Array TypeId} {vs : List Value} (ha : EnvOk N E a) (ho : o.op = .call { callee := .value (.func f), args := xs.toArray, argTypes := ts }) (hx : evs E xs = some vs)
    (hf : P.funcs[f]? = some fn) (hn : (fn.name == "runtime.NumGoroutine") = false) (hb : fn.body.isNone = false) : (execOp a.eval o).run P w = .ok (.enter f vs.toArray) w := by
  unfold execOp; rw [ho]
  have harr : xs.toArray.map a.eval = vs.toArray := by rw [List.map_toArray, ha.evals hx]
  have hfn : a.eval (.func f) = .func (.func f) #[] #[] := rfl
  simp only [resolve, harr, hfn, Deferred.ofValue]
  have hn' : ¬ fn.name = "runtime.NumGoroutine" := by simpa using hn
  have hb' : ¬ fn.body = none := by intro e; rw [e] at hb; simp at hb
  simp [invoke, callFunc, hf, hn', hb', go_sem]
theorem TQ.call {ops : Array Oper} {l : List Oper} {o : Oper} {R : Act → Prop} {d : Nat} {v : Value} {f : FuncId} {fn : Func} {xs : List Operand} {ts : Array TypeId} {vs : List Value} (hg : o.guard = none) (hd : o.dst = some d) (hN : Nat.blt d N.n = true)
    (ho : o.op = .call { callee := .value (.func f), args := xs.toArray, argTypes := ts }) (hx : evs E xs = some vs) (hf : P.funcs[f]? = some fn) (hn : (fn.name == "runtime.NumGoroutine") = false) (hb : fn.body.isNone = false)
    (hc : ∀ w, I w → Calls P f vs.toArray w fun e w' => e = .returned v ∧ I w') (h : TQ P N ops R l ((d, v) :: E) I) : TQ P N ops R (o :: l) E I := fun a ha => by
  unfold wpQuiet
  rw [if_pos (by simp [Region.wanted, hg])]
  refine ⟨v, fun w hw => ?_, ?_⟩
  · unfold Oper.quietAt; rw [enters ha ho hx hf hn hb]; exact ⟨rfl, hc w hw⟩
  · rw [hd]; exact h _ (ha.put d v (by simpa [Nat.blt_eq] using hN))
/-- a call whose result and memory are known but for an x -/
theorem TL.call {α : Type} {ops : Array Oper} {l : List Oper} {o : Oper} {d : Nat} {f : FuncId} {fn : Func} {xs : List Operand} {ts : Array TypeId} {vs : List Value} {r : α → Value} {I' : α → World → Prop} (hg : o.guard = none) (hd : o.dst = some d) (hN : Nat.blt d N.n = true)
    (ho : o.op = .call { callee := .value (.func f), args := xs.toArray, argTypes := ts }) (hx : evs E xs = some vs) (hf : P.funcs[f]? = some fn) (hn : (fn.name == "runtime.NumGoroutine") = false) (hb : fn.body.isNone = false)
    (hc : ∀ w, I w → Calls P f vs.toArray w fun e w' => ∃ x, e = .returned (r x) ∧ I' x w') (h : ∀ x, TL P N ops Q l ((d, r x) :: E) (I' x)) : TL P N ops Q (o :: l) E I := fun a w ha hw =>
  wpList_plain hg fun K hK => by
    unfold Oper.wp
    rw [enters ha ho hx hf hn hb, Oper.upon_enter]
    refine (hc w hw).mono ?_
    rintro e w' ⟨x, rfl, hI⟩
    show K (a.put o.dst (r x)) w'
    rw [hd]
    exact hK _ _ (h x _ _ (ha.put d _ (by simpa [Nat.blt_eq] using hN)) hI)
/-! ### One piece of code after the other -/
theorem TC.seq_ {x y : Code} (h : TC P N (Exit.then (y.wp P Q) Q) x E I) : TC P N Q (.seq x y) E I := fun a w ha hw => wp_seq (h a w ha hw)
theorem TL.nil_then {ops : Array Oper} {y : Code} (h : TC P N Q y E I) : TL P N ops (Exit.then (y.wp P Q) Q) [] E I := fun a w ha hw => h a w ha hw
theorem TC.skip_then {y : Code} (h : TC P N Q y E I) : TC P N (Exit.then (y.wp P Q) Q) .skip E I := fun a w ha hw => wp_skip (h a w ha hw)
/-- the end of a block: what follows it -/
theorem TL.nil_block {ops : Array Oper} {y : Code} {id : Nat} (h : TC P N Q y E I) : TL P N ops (Exit.inBlock id (Exit.then (y.wp P Q) Q)) [] E I := fun a w ha hw => h a w ha hw
theorem TC.quiet_then {id : Nat} {l : List Oper} {y : Code} {E' : Env} (hm : P.follows .mixedOrders = true) (hB : Region.lexB .any l.toArray = true) (hI : ∀ w, I w → I { w with drawn := w.drawn + 1 })
    (h : TQ P N l.toArray (EnvOk N E') l E I) (hy : TC P N Q y E' I) : TC P N (Exit.then (y.wp P Q) Q) (.region id l.toArray true) E I :=
  TC.quiet hm hB hI h fun a w ha hw => hy a w ha hw
theorem bin_lss {xt : TypeId} {k : IntKind} {m n : Int} (w : World) : (binOp .lss xt (.int k m) (.int k n)).run P w = .ok (.bool (decide (m < n))) w := by simp [binOp, go_sem]
theorem gives_run {o : Oper} {v : Value} (h : ∀ a w, EnvOk N E a → (execOp a.eval o).run P w = .ok (.value v) w) : Gives P N o E I v := fun a w ha _ => h a w ha
theorem gives_index {o : Oper} {t : TypeId} {x i : Operand} {vx vi v : Value} (ho : o.op = .index t x i) (hx : ev E x = some vx) (hi : ev E i = some vi) (hv : ∀ w : World, (Instr.index t vx vi).run P w = .ok v w) : Gives P N o E I v := fun a w ha _ => by
  unfold execOp; rw [ho]
  simp only [ha.eval hx, ha.eval hi, Sem.run_bind, hv, Result.andThen_ok, Sem.run_pure]
theorem at_arr {t e : TypeId} {n : Nat} (ht : P.underlying t = some (.array n e)) (hs : ∀ w : World, (sizeOf e).run P w = .ok 1 w) (g off : Nat) (k : IntKind) (j : Nat) (hj : j < n) (w : World) : (Instr.indexAt t (.pointer (some ⟨g, off, none⟩)) (.int k (j : Int))).run P w = .ok (.pointer (some ⟨g, off + j, none⟩)) w := by
  have hadd : (⟨g, off, none⟩ : Addr).add j = ⟨g, off + j, none⟩ := by unfold Addr.add; split <;> simp_all
  simp [Instr.indexAt, run_underlying ht, Instr.sureAddr, asIntOf, hs, hadd, go_sem]
  omega
/-! ### A region of reads and quiet calls before a tail in one order -/
def TS (P : Program) (N : Fr) (ops : Array Oper) (R : Act → World → Prop) (l : List Oper) (E : Env) (I : World → Prop) : Prop := ∀ a w, EnvOk N E a → I w → wpStill P ops w (fun a' => R a' w) l a
theorem TS.nil {ops : Array Oper} {R : Act → World → Prop} (h : ∀ a w, EnvOk N E a → I w → R a w) : TS P N ops R [] E I := fun a w ha hw => h a w ha hw
theorem TS.val {ops : Array Oper} {l : List Oper} {o : Oper} {R : Act → World → Prop} {d : Nat} {v : Value} (hg : o.guard = none) (hd : o.dst = some d) (hN : Nat.blt d N.n = true) (hv : Gives P N o E I v) (h : TS P N ops R l ((d, v) :: E) I) : TS P N ops R (o :: l) E I := fun a w ha hw => by
  unfold wpStill
  rw [if_pos (by simp [Region.wanted, hg])]
  unfold Oper.still
  rw [hv a w ha hw, Oper.stillUpon_value, hd]
  exact h _ _ (ha.put d v (by simpa [Nat.blt_eq] using hN)) hw
theorem TC.tail {id : Nat} {l : List Oper} (n : Nat) (hm : P.follows .mixedOrders = true) (hB : Region.lexTailB .any l.toArray n = true) (hI : ∀ w, I w → I { w with drawn := w.drawn + 1 })
    (h : TS P N l.toArray (fun a w => wpList P l.toArray Q (l.drop n) a w) (l.take n) E I) : TC P N Q (.region id l.toArray true) E I := fun a w ha hw =>
  wp_region_still_tail n hm hB (h a _ ha (hI w hw))
/-- what is known at the end of a function whose one result lies in a slot -/
theorem ret_tmp {fn : Func} {t : Tmp} {v : Value} {R : Ending → World → Prop} (hr : fn.results = #[.tmp t]) (hv : look E t = some v) (hR : ∀ w, I w → R (.returned v) w) (hD : N.ds = [] := by rfl) : ∀ a w, EnvOk N E a → I w → bodyPost P fn R .ret a w := fun a w ha hw =>
  ⟨ha.defers.trans hD, v, by rw [results_tmp hr]; have := ha.slot t v hv; simp [this], hR w hw⟩
/-- the walk of a function begins -/
theorem begin_ {f : FuncId} {fn : Func} {c : Code} {vs : List Value} {R : Ending → World → Prop} {w : World} (hf : P.funcs[f]? = some fn) (hb : fn.body = some c) (hN : (⟨fn.ntmps, []⟩ : Fr) = N) (hn : Nat.ble vs.length N.n = true)
    (h : TC P N (bodyPost P fn R) c (vs.zipIdx.map fun x => (x.2, x.1)) I) (hw : I w) : Calls P f vs.toArray w R := by
  subst hN
  refine calls_of_wp hf hb (h _ _ ⟨rfl, ?_, ?_⟩ hw)
  · have : vs.length ≤ fn.ntmps := by simpa [Nat.ble_eq] using hn
    simp; omega
  · intro t v hv
    have key : ∀ (us : List Value) (k : Nat), look ((us.zipIdx k).map fun x => (x.2, x.1)) t = some v → k ≤ t ∧ us[t - k]? = some v := by
      intro us
      induction us with
      | nil => intro k h; simp [look] at h
      | cons u us ih =>
        intro k h
        simp only [List.zipIdx_cons, List.map_cons, look] at h
        by_cases e : k = t
        · subst e
          have hb : Nat.beq k k = true := by simp
          rw [hb] at h
          simp at h
          subst h
          simp
        · have hb : Nat.beq k t = false := by
            cases hq : Nat.beq k t with
            | false => rfl
            | true => exact absurd (Nat.eq_of_beq_eq_true hq) e
          rw [hb] at h
          obtain ⟨h1, h2⟩ := ih (k + 1) h
          refine ⟨by omega, ?_⟩
          rw [show t - k = (t - (k + 1)) + 1 by omega]
          simpa using h2
    obtain ⟨_, h2⟩ := key vs 0 hv
    simp only [Nat.sub_zero] at h2
    have hlt : t < vs.length := (List.getElem?_eq_some_iff.1 h2).1
    simp [Array.getElem?_append, hlt]
    exact (List.getElem?_eq_some_iff.1 h2).2
/-- every entry of the second list is an entry of the first -/
def Has (E : Env) : Env → Prop
  | [] => True
  | p :: r => look E p.1 = some p.2 ∧ Has E r
theorem look_mem : ∀ {E : Env} {t : Nat} {v : Value}, look E t = some v → (t, v) ∈ E
  | [], t, v, h => by simp [look] at h
  | (k, u) :: r, t, v, h => by
    simp only [look] at h
    by_cases e : Nat.beq k t = true
    · rw [e] at h
      simp only [cond_true, Option.some.injEq] at h
      have := Nat.eq_of_beq_eq_true e
      subst this h
      exact List.mem_cons_self
    · have e : Nat.beq k t = false := by cases hq : Nat.beq k t with
        | false => rfl
        | true => exact absurd hq e
      rw [e] at h
      exact List.mem_cons_of_mem _ (look_mem h)
theorem Has.mem {E : Env} : ∀ {E' : Env}, Has E E' → ∀ p ∈ E', look E p.1 = some p.2
  | [], _, p, hp => absurd hp List.not_mem_nil
  | q :: r, h, p, hp => by
    rcases List.mem_cons.1 hp with rfl | hp
    · exact h.1
    · exact Has.mem h.2 p hp
theorem EnvOk.of_list {E' : Env} {a : Act} (h : EnvOk N E a) (hE : Has E E') : EnvOk N E' a := h.weak fun t v hv => hE.mem _ (look_mem hv)
def evp (E : Env) : List (Nat × Operand) → Option (List (Nat × Value))
  | [] => some []
  | (i, x) :: r => match ev E x, evp E r with
    | some v, some vs => some ((i, v) :: vs)
    | _, _ => none
theorem EnvOk.evalps {a : Act} (h : EnvOk N E a) : ∀ {xs : List (Nat × Operand)} {vs : List (Nat × Value)}, evp E xs = some vs → xs.map (fun p => (p.1, a.eval p.2)) = vs
  | [], vs, hx => by simp [evp] at hx; simp [hx]
  | (i, x) :: r, vs, hx => by
    simp only [evp] at hx
    split at hx
    · rename_i v vr h1 h2
      injection hx with hx
      subst hx
      simp [h.eval h1, EnvOk.evalps h h2]
    · cases hx
theorem gives_build {o : Oper} {t : TypeId} {xs : List (Nat × Operand)} {vs : List (Nat × Value)} {v : Value} (ho : o.op = .build t xs.toArray) (hx : evp E xs = some vs) (hv : ∀ w : World, (Instr.build t vs.toArray).run P w = .ok v w) : Gives P N o E I v := fun a w ha _ => by
  unfold execOp; rw [ho]
  have : xs.toArray.map (fun x => (x.1, a.eval x.2)) = vs.toArray := by rw [List.map_toArray, ha.evalps hx]
  simp only [this, Sem.run_bind, hv, Result.andThen_ok, Sem.run_pure]
theorem TC.quiet_to {id : Nat} {l : List Oper} {y : Code} {E' : Env} (hm : P.follows .mixedOrders = true) (hB : Region.lexB .any l.toArray = true) (hI : ∀ w, I w → I { w with drawn := w.drawn + 1 })
    (h : TQ P N l.toArray (EnvOk N E') l E I) (hy : ∀ a w, EnvOk N E' a → I w → Q .normal a w) : TC P N Q (.region id l.toArray true) E I :=
  TC.quiet hm hB hI h hy
end
end Go.Proofs.Ytmbcclgnjobikaa
