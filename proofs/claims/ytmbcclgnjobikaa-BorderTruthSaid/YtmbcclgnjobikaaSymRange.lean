/-
  A walk by rules: a function that ranges over a function; its beginning and its return. No program is imported.
-/
import Derived.Test.YtmbcclgnjobikaaSymHeld
import Derived.RangeFuncLeaves
import Derived.RangeFuncKeeps
import Derived.RangeFuncBound
import Derived.RangeFuncNested
import Derived.RangeFuncCalls
namespace Go.Proofs.Ytmbcclgnjobikaa
open Go.RowKit
set_option linter.unusedVariables false
set_option linter.unusedSimpArgs false
section
variable {P : Program} {N : Fr} {E : Env} {I : World → Prop}
/-- the walk of a function that ranges over a function begins -/
theorem beginM_ {f : FuncId} {fn : Func} {c : Code} {vs : List Value} {R : Ending → World → Prop} {w : World} (n : Nat) (hf : P.funcs[f]? = some fn) (hb : fn.body = some c) (hN : (⟨fn.ntmps, []⟩ : Fr) = N) (hn : Nat.ble vs.length N.n = true)
    (h : TC P N (bodyPostM Fence.wide n P fn R) c (vs.zipIdx.map fun x => (x.2, x.1)) I) (hw : I w) : Calls P f vs.toArray w R := by
  refine (callsIn_wide (n := n)).1 (callsIn_of_wp_marks hf hb trivial (wpIn_wide.2 (h _ _ ?_ hw)) rfl)
  subst hN
  have hle : vs.length ≤ fn.ntmps := by simpa [Nat.ble_eq] using hn
  refine ⟨rfl, by simp; omega, fun t v hv => ?_⟩
  have key : ∀ (us : List Value) (k : Nat), look ((us.zipIdx k).map fun x => (x.2, x.1)) t = some v → k ≤ t ∧ us[t - k]? = some v := by
    intro us
    induction us with
    | nil => intro k h; simp [look] at h
    | cons u us ih =>
      intro k h
      simp only [List.zipIdx_cons, List.map_cons, look] at h
      by_cases e : k = t
      · subst e
        have hb : Nat.beq k k = true := by simp
        rw [hb] at h
        simp at h
        subst h
        simp
      · have hb : Nat.beq k t = false := by
          cases hq : Nat.beq k t with
          | false => rfl
          | true => exact absurd (Nat.eq_of_beq_eq_true hq) e
        rw [hb] at h
        obtain ⟨h1, h2⟩ := ih (k + 1) h
        refine ⟨by omega, ?_⟩
        rw [show t - k = (t - (k + 1)) + 1 by omega]
        simpa using h2
  obtain ⟨_, h2⟩ := key vs 0 hv
  simp only [Nat.sub_zero] at h2
  have hlt : t < vs.length := (List.getElem?_eq_some_iff.1 h2).1
  simp [Array.getElem?_append, hlt]
  exact (List.getElem?_eq_some_iff.1 h2).2
/-- the return behind a loop over a function: the block of the rounds' deferred calls is taken up -/
theorem retM_tmp {F : Fence} {n : Nat} {fn : Func} {t : Tmp} {v : Value} {D : Nat} {R : Ending → World → Prop} (hr : fn.results = #[.tmp t]) (hv : look E t = some v) (hD : N.ds = [{ target := .collected D, args := #[] }])
    (hK : ∀ w, I w → w.heap[D]? = some (.deferred (some []))) (hR : ∀ w, I w → R (.returned v) (w.putObj D (.deferred none))) : TX N (bodyPostM F n P fn R) .ret E I := fun a w ha hw => by
  show LeavesInM F n P fn a.tmps R a.defers .returning w
  rw [ha.defers, hD]
  refine ⟨by simp, .inl ⟨_, _, rfl, run_takeDeferred (hK w hw), ?_⟩⟩
  have := ha.slot t v hv
  exact ⟨v, by rw [results_tmp hr]; simp [this], hR w hw⟩
end
/-! ### In a round -/
def noDefer (l : List Oper) : Bool := l.all fun o => match o.op with
  | .defer _ => false
  | _ => true
theorem noDefer_at {l : List Oper} (h : noDefer l = true) : ∀ o ∈ l, ∀ c, o.op ≠ .defer c := fun o ho c e => by
  have := List.all_eq_true.1 h o ho
  rw [e] at this
  cases this
section
variable {P : Program} {Q : Exit → Act → World → Prop}
theorem wpList_inRound {lr n : Nat} {ops : Array Oper} (hQ : LetsOut Q → False) : ∀ (L : List Oper), (∀ o ∈ L, ∀ c, o.op ≠ .defer c) → ∀ a w, wpList P ops Q L a w → wpListIn (Fence.wide.inRound lr) n P ops Q L a w
  | [], _, a, w, h => h
  | o :: r, hd, a, w, h => by
    have ih := wpList_inRound (lr := lr) (n := n) (ops := ops) hQ r (fun o' ho' => hd o' (List.mem_cons_of_mem _ ho'))
    unfold wpList at h
    unfold wpListIn
    by_cases hw : Region.wanted o (yielded ops a.tmps) = true
    · rw [if_pos hw] at h ⊢
      rcases h with h | h
      · refine ⟨fun f _ => trivial, ?_⟩
        rw [Oper.semAt_eq _ _ _ (hd o List.mem_cons_self)]
        unfold Oper.wp at h
        generalize (execOp a.eval o).run P w = res at h
        cases res with
        | ok x w' =>
          cases x with
          | value v => exact ih _ _ h
          | skip => exact ih _ _ h
          | defer d => exact ih _ _ h
          | enter f args =>
            refine ⟨fun h => (by cases h), CallsIn.inRound lr (callsIn_wide.2 (Calls.mono h fun e w'' q => ?_))⟩
            cases e with
            | returned v => exact ih _ _ q
            | panicked c => exact q
            | outgrown => exact q
          | row row args =>
            exact ⟨fun h => (by cases h), fun c cs hr => by
              obtain ⟨v, w'', q, st⟩ := h c cs
              exact ⟨v, w'', ih _ _ q, stepsIn_wide.2 st⟩⟩
          | round => exact h.elim
          | _ => exact h.elim
        | halt x w' =>
          cases x with
          | panic v => exact h
          | _ => exact h.elim
      · exact (hQ h.2).elim
    · rw [if_neg hw] at h ⊢
      exact ⟨fun f _ => trivial, ih _ _ h⟩
/-- code in a round of a loop over a function -/
def TR (P : Program) (N : Fr) (lr n : Nat) (Q : Exit → Act → World → Prop) (c : Code) (E : Env) (I : World → Prop) : Prop := ∀ a w, EnvOk N E a → I w → c.wpIn (Fence.wide.inRound lr) n P Q a w
variable {N : Fr} {E : Env} {I : World → Prop} {lr n : Nat}
theorem TR.region {id : Nat} {l : List Oper} (hQ : LetsOut Q → False) (hd : noDefer l = true) (h : TL P N l.toArray Q l E I) : TR P N lr n Q (.region id l.toArray false) E I := fun a w ha hw =>
  wpIn_region_lit (wpList_inRound hQ l (noDefer_at hd) a w (h a w ha hw))
theorem TR.block {id : Nat} {c : Code} (h : TR P N lr n (Exit.inBlock id Q) c E I) : TR P N lr n Q (.block id c) E I := fun a w ha hw => wpIn_block (h a w ha hw)
/-- the end of a round that goes on -/
def RoundQ (J : World → Prop) : Exit → Act → World → Prop := fun e _ w => e = .normal ∧ J w
theorem TX.roundQ {J : World → Prop} (h : ∀ w, I w → J w) : TX N (RoundQ J) .normal E I := fun a w ha hw => ⟨rfl, h w hw⟩
end
def noOth (l : List Pc) : Bool := l.all fun p => match p with
  | .oth _ _ => false
  | _ => true
theorem noOth_at {l : List Pc} (h : noOth l = true) : ∀ p ∈ l, ∀ k o, p = .oth k o → False := fun p hp k o e => by
  have := List.all_eq_true.1 h p hp
  rw [e] at this
  cases this
theorem pm_ownFrom {β : Type} {w0 : Base} {B : Nat} {L : β → List Pc} (h1 : w0.b ≤ B) (h2 : w0.w.heap.size ≤ B) (hL : ∀ s, noOth (L s) = true) : OwnFrom B (fun s W => Pm w0 (L s) W) := fun s W W' row hs hg hr =>
  ⟨hs.bel.grown hg hs.base fun k e => Nat.le_trans h1 (hr k e).1,
   fun p hp => Pc.same (hs.own p hp) (fun g hgp => by
     obtain ⟨o, ho, hc⟩ := Pc.cells (hs.own p hp) (noOth_at (hL s) p hp) g hgp
     refine hg.block g (Array.getElem?_eq_some_iff.1 ho).1 fun e => ?_
     obtain ⟨_, o', ho', hc'⟩ := hr g e.symm
     rw [ho] at ho'
     cases ho'
     exact absurd (hc.symm.trans hc') (by decide)) (fun k hk => hg.block k (Nat.lt_of_lt_of_le hk hs.base) fun e => by
     have := (hr k e.symm).1
     omega),
   hs.apart,
   ⟨Nat.le_trans hs.oth.size hg.size, fun k o hk ho => by
     have hkW := hs.oth.same k o hk ho
     refine (hg.block k (Array.getElem?_eq_some_iff.1 hkW).1 fun e => ?_).trans hkW
     have := (hr k e.symm).1
     have := (Array.getElem?_eq_some_iff.1 hk).1
     omega⟩, hs.low⟩
section
variable {P : Program} {N : Fr} {E : Env} {Q : Exit → Act → World → Prop} {w0 : Base}
theorem TC.fact {I : World → Prop} {c : Code} {p : Prop} (hp : ∀ w, I w → p) (h : p → TC P N Q c E I) : TC P N Q c E I := fun a w ha hw => h (hp w hw) a w ha hw
theorem Pc.mono {b b' : Nat} {w : World} {p : Pc} (h : p.ok b w) (hb : b' ≤ b) (hna : p.isAbs = false) : p.ok b' w := by
  cases p with
  | blk g t cs => exact ⟨h.1, Nat.le_trans hb h.2⟩
  | row v e size n xs => exact own_base h hb
  | oth k o => exact ⟨h.1, Nat.le_trans hb h.2⟩
  | abs g p => cases hna
theorem noAbs_at {l : List Pc} (h : noAbs l = true) : ∀ p ∈ l, p.isAbs = false := fun p hp => by
  have := List.all_eq_true.1 h p hp
  simpa using this
theorem Pm.addAll {L L' : List Pc} {w w' : World} (h : Pm w0 L w) (h' : Pm w L' w') (hna : noAbs L' = true) : Pm w0 (L' ++ L) w' := by
  have h2 := h.below h'.bel
  refine ⟨h2.bel, fun p hp => ?_, List.pairwise_append.2 ⟨h'.apart, h.apart, fun p hp q hq g hg hgq => ?_⟩, h2.oth, h.low⟩
  · rcases List.mem_append.1 hp with hp | hp
    · exact Pc.mono (h'.own p hp) h.base (noAbs_at hna p hp)
    · exact h2.own p hp
  · have h1 := (Pc.lt (h'.own p hp) g hg).1
    have h3 := (Pc.lt (h.own q hq) g hgq).2
    have h4 : w.heap.size ≤ g := h1
    omega
/-- a call that makes pieces of its own -/
theorem TL.pcallPm {α : Type} {L : List Pc} {ops : Array Oper} {l : List Oper} {o : Oper} {d : Nat} {f : FuncId} {fn : Func} {xs : List Operand} {ts : Array TypeId} {vs : List Value} (r : α → Value) (Ln : α → List Pc) (hg : o.guard = none) (hd : o.dst = some d) (hN : Nat.blt d N.n = true)
    (ho : o.op = .call { callee := .value (.func f), args := xs.toArray, argTypes := ts }) (hx : evs E xs = some vs) (hf : P.funcs[f]? = some fn) (hn : (fn.name == "runtime.NumGoroutine") = false) (hb : fn.body.isNone = false)
    (hc : ∀ w, Pm w0 L w → Calls P f vs.toArray w fun en w' => ∃ x, en = .returned (r x) ∧ Pm w (Ln x) w')
    (h : ∀ x, TL P N ops Q l ((d, r x) :: E) (Pm w0 (Ln x ++ L))) (hna : ∀ x, noAbs (Ln x) = true := by intro x; rfl) : TL P N ops Q (o :: l) E (Pm w0 L) :=
  TL.call (α := α) (r := r) (I' := fun x => Pm w0 (Ln x ++ L)) hg hd hN ho hx hf hn hb (fun w hw => (hc w hw).mono fun en w' ⟨x, he, h2⟩ => ⟨x, he, hw.addAll h2 (hna x)⟩) h
/-- a loop over a function, one variable, whose rounds all go on -/
theorem TC.rangeF {α : Type} {g : Operand} {p id : Nat} {la : List Oper} {body : Code} {gf : Nat} {lb : Array Value} {fn : Func} (n : Nat) (h1 : 1 ≤ n)
    (hg : ev E g = some (.func (.func gf) #[] lb)) (hf : P.funcs[gf]? = some fn) (hn : (fn.name == "runtime.NumGoroutine") = false) (hb : fn.body.isNone = false) (hp : Nat.blt p N.n = true)
    (enc : α → Value) (Kp : World → World → Prop) (S Sp : List α → Prop) (K : Nat) (L : List α → List Pc) (hoth : ∀ pre, noOth (L pre) = true)
    (hseq : ∀ w, Pm w0 (L []) w → SeqStopsK Fence.wide (n - 1) P gf lb (fun x => #[enc x]) Kp S Sp K w)
    (hKt : ∀ {A B C : World}, Kp A B → Kp B C → Kp A C) (hKb : ∀ (W : World) (l : Nat) (o o' : Obj), W.heap[l]? = some o → o.isCells = false → Kp W (W.putObj l o'))
    (hKp : ∀ pre pre' b W W', Pm ⟨W, b⟩ (L pre) W → Pm ⟨W, b⟩ (L pre') W' → Kp W W')
    (E' : α → Env) (hd : noDefer la = true)
    (hassign : ∀ (x : α) (Q' : Exit → Act → World → Prop) (I : World → Prop), TX ⟨N.n, []⟩ Q' .normal (E' x) I → TL P ⟨N.n, []⟩ la.toArray Q' la ((p, enc x) :: E) I)
    (hbody : ∀ (lr : Nat) (pre : List α) (x : α) (W : World), Pm w0 (L pre) W → pre.length < K → TR P ⟨N.n, []⟩ lr (n - 1 - 1) (RoundQ (Pm ⟨W, w0.b⟩ (L (pre ++ [x])))) body (E' x) (Pm ⟨W, w0.b⟩ (L pre)))
    (hdone : ∀ (D : Nat) (xs : List α), S xs → TX ⟨N.n, { target := .collected D, args := #[] } :: N.ds⟩ Q .normal E (Pm w0 (.oth D (.deferred (some [])) :: L xs))) :
    TC P N Q (.rangeFunc g #[p] (.region id la.toArray false) body) E (Pm w0 (L [])) := fun a w ha hw => by
  refine wpIn_wide.1 (wpIn_rangeFunc_ownH (n := n) (w0 := w) rfl h1 (ha.eval hg) trivial (fun args w' => ?_) (hseq w hw) hKt (fun W l o o' _ h2 h3 _ => hKb W l o o' h2 h3) (Below.refl _ _) (fun _ => rfl)
    (fun pre W => Pm w0 (L pre) W) (fun _ _ _ => False) (pm_ownFrom hw.base hw.bel.size hoth) (fun c s W W' row h _ _ => h) hw (fun x a' _ => EnvOk ⟨N.n, []⟩ (E' x) a') (fun x a' s W W' row h _ _ => h) ?_ ?_ ?_ ?_)
  · have hn' : ¬ fn.name = "runtime.NumGoroutine" := by simpa using hn
    have hb' : ¬ fn.body = none := by intro e; rw [e] at hb; simp at hb
    simp [callFunc, hf, hn', hb', go_sem]
  · intro lr pre x W K' hI hK
    refine wpIn_region_lit (wpList_inRound (fun ⟨a, w, h⟩ => h) la (noDefer_at hd) _ W (hassign x _ (fun W' => W' = W) (fun a' W' ha' hW => ?_) _ W ?_ rfl))
    · subst hW
      exact hK a' W' (KeepsFrom.refl _ _) (hKp pre pre w0.b W' W' hI.from_ hI.from_) hI ha'
    · have h0 : EnvOk ⟨N.n, []⟩ E { a with defers := [] } := ⟨rfl, ha.size, ha.slot⟩
      have := h0.put p (enc x) (by simpa [Nat.blt_eq] using hp)
      simpa [Act.put] using this
  · intro lr pre x a' W _ _ hI ha' hlen
    refine wpIn_mono (hbody lr pre x W hI hlen a' W ha' hI.from_) fun e a2 W2 q => ?_
    obtain ⟨rfl, hJ⟩ := q
    exact ⟨hJ.oth.from _, hKp pre _ _ W W2 hI.from_ hJ, hI.trans hJ⟩
  · intro D xs W hD hS hI hK
    refine hdone D xs hS _ W ⟨by simp [ha.defers], ha.size, ha.slot⟩ ⟨hI.bel, fun q hq => ?_, List.Pairwise.cons (fun q hq g hg he => ?_) hI.apart, hI.oth, hI.low⟩
    · rcases List.mem_cons.1 hq with rfl | hq
      · exact ⟨hK, Nat.le_trans hw.base hD⟩
      · exact hI.own q hq
    · simp only [Pc.key, Option.some.injEq] at hg
      subst hg
      obtain ⟨o, ho, hc⟩ := Pc.cells (hI.own q hq) (noOth_at (hoth xs) q hq) D he
      rw [hK] at ho
      cases ho
      cases hc
  · intro D c pre W _ _ h
    exact h.elim
/-- behind such a loop a function hands back a row of its own -/
theorem retM_row {n : Nat} {fn : Func} {t : Tmp} {A : Option Addr} {e : TypeId} {size m c k kD D : Nat} {xs : List Value} {L : List Pc} {R : Ending → World → Prop} (hr : fn.results = #[.tmp t]) (hv : look E t = some (.slice A m c)) (hD : N.ds = [{ target := .collected D, args := #[] }])
    (hkD : L[kD]? = some (.oth D (.deferred (some [])))) (hk : L[k]? = some (.row (.slice A m c) e size m xs))
    (hR : ∀ w, w.ownsRow w0.b e size (.slice A m c) m xs → Below w0.b w0.w w → R (.returned (.slice A m c)) w) : TX N (bodyPostM Fence.wide n P fn R) .ret E (Pm w0 L) := by
  refine retM_tmp hr hv hD (fun w hw => (hw.at_ hkD).1) fun w hw => ?_
  have hd := hw.at_ hkD
  have hg := grownBy_putObj' w D (.deferred none)
  refine hR _ (Pc.same (hw.at_ hk) (fun g hgp => ?_) (fun k' hk' => hg.block k' (Nat.lt_of_lt_of_le hk' hw.base) fun e => by cases e; have := hd.2; omega)) (hw.bel.grown hg hw.base fun k' e => by cases e; exact hd.2)
  obtain ⟨o, ho, hc⟩ := Pc.cells (hw.at_ hk) (fun _ _ e => by cases e) g hgp
  refine hg.block g (Array.getElem?_eq_some_iff.1 ho).1 fun e => ?_
  cases e
  rw [hd.1] at ho
  cases ho
  cases hc
end
end Go.Proofs.Ytmbcclgnjobikaa
