/-
  A walk by rules: in a drawn region, a call that leaves the world as it is may be taken ahead of what else may come up. No program is imported.
-/
import Derived.Test.YtmbcclgnjobikaaSymTop
import Derived.Test.YtmbcclgnjobikaaSymHeld
namespace Go.Proofs.Ytmbcclgnjobikaa
open Go.RowKit
set_option linter.unusedVariables false
set_option linter.unusedSimpArgs false
section
variable {P : Program} {ops : Array Oper} {S : World → Prop} {Q : Exit → Act → World → Prop}
/-- the call o hands back v and leaves the world, from every world of S -/
def StillC (P : Program) (ops : Array Oper) (S : World → Prop) (o : Oper) (v : Value) (a : Act) : Prop :=
  Region.wanted o (yielded ops a.tmps) = true ∧ ∀ w, S w → ∃ f args, (execOp a.eval o).run P w = .ok (.enter f args) w ∧ Calls P f args w fun e w' => e = .returned v ∧ w' = w
theorem StillC.go {i : Nat} {o : Oper} {v : Value} {a : Act} {K : Act → World → Prop} {w : World} (h : StillC P ops S o v a) (hi : ops[i]? = some o) (hS : S w) (hK : K (a.put o.dst v) w) : wpOp P ops Q i K a w := by
  obtain ⟨h1, h2⟩ := h
  obtain ⟨f, args, he, hc⟩ := h2 w hS
  unfold wpOp
  rw [hi]
  simp only [h1, if_true]
  left
  unfold Oper.wp
  rw [he]
  simp only [Oper.upon]
  refine hc.mono ?_
  rintro e w' ⟨rfl, rfl⟩
  exact hK
theorem StillC.like {o : Oper} {v : Value} {a b : Act} (h : StillC P ops S o v a) (he : execOp b.eval o = execOp a.eval o) (hw : Region.wanted o (yielded ops b.tmps) = Region.wanted o (yielded ops a.tmps)) : StillC P ops S o v b :=
  ⟨hw.trans h.1, fun w hS => by rw [he]; exact h.2 w hS⟩
/-- another operation, apart from the call: it does the same whether the call has come up or not, and leaves the call what it was -/
theorem StillC.across {j : Nat} {o oj : Oper} {v : Value} {a : Act} {K : Act → World → Prop} {w : World} (hy : StillC P ops S o v a) (hj : ops[j]? = some oj) (hap : o.apart ops oj = true) (hs : ∀ cs b, o.op ≠ .select cs b) (hsj : ∀ cs b, oj.op ≠ .select cs b)
    (h : wpOp P ops (NoPanic Q) j K (a.put o.dst v) w) : wpOp P ops (NoPanic Q) j (fun b w' => StillC P ops S o v b ∧ K (b.put o.dst v) w') a w := by
  obtain ⟨p1, p2, p3⟩ := Oper.apart_spec hap
  have stay : ∀ (b : Act) (u : Value), StillC P ops S o v b → StillC P ops S o v (b.put oj.dst u) := fun b u hb => hb.like (execOp_put o hs b oj.dst u p3) (wanted_put o b oj.dst u p3)
  have swap : ∀ (b : Act) (u : Value), (b.put oj.dst u).put o.dst v = (b.put o.dst v).put oj.dst u := fun b u => (Act.put_comm b v u p2).symm
  unfold wpOp at h ⊢
  rw [hj] at h ⊢
  dsimp only at h ⊢
  rw [wanted_put oj a o.dst v p1] at h
  by_cases hw : Region.wanted oj (yielded ops a.tmps) = true
  · rw [if_pos hw] at h ⊢
    rcases h with h | ⟨k1, k2⟩
    · left
      unfold Oper.wp at h ⊢
      rw [execOp_put oj hsj a o.dst v p1] at h
      cases hr : (execOp a.eval oj).run P w with
      | halt x w' =>
        rw [hr] at h
        cases x <;> simp only [Oper.upon] at h ⊢
        case panic u => exact h
      | ok n w' =>
        rw [hr] at h
        cases n <;> simp only [Oper.upon] at h ⊢
        case value u => exact ⟨stay a u hy, by rw [swap]; exact h⟩
        case skip => exact ⟨stay a _ hy, by rw [swap]; exact h⟩
        case defer d =>
          refine ⟨stay _ _ (hy.like (b := { a with defers := d :: a.defers }) rfl rfl), ?_⟩
          rw [swap, ← Act.put_defers]
          exact h
        case enter f args =>
          refine Calls.mono h fun e w2 he => ?_
          cases e with
          | returned u => exact ⟨stay a u hy, by rw [swap]; exact he⟩
          | panicked c => exact he
          | outgrown => exact he
        case row r args => exact Rows.mono h fun u w2 he => ⟨stay a u hy, by rw [swap]; exact he⟩
    · right
      refine ⟨?_, k2⟩
      unfold Oper.asks at k1 ⊢
      rw [execOp_put oj hsj a o.dst v p1] at k1
      exact k1
  · rw [if_neg hw] at h ⊢
    exact ⟨stay a _ hy, by rw [swap]; exact h⟩
theorem held_call {i : Nat} {o : Oper} {v : Value} (hi : ops[i]? = some o) (hsel : ∀ (j : Nat) (o : Oper) cs b, ops[j]? = some o → o.op ≠ .select cs b) : ∀ (f : Nat) (listed : Array Bool) (a : Act) (w : World),
    (∀ j oj, ops[j]? = some oj → j ≠ i → listed.getD j true = false → (∀ e ∈ oj.after, Region.binds .any e = true → e.on ≠ i) → o.apart ops oj = true) → i ∈ Region.ready .any ops listed → StillC P ops S o v a → S w →
    wpAnyH P .any ops (NoPanic Q) S f (listed.setIfInBounds i true) (a.put o.dst v) w → wpAnyH P .any ops (NoPanic Q) S (f + 1) listed a w := by
  intro f
  induction f with
  | zero =>
    intro listed a w _ hr hy hS H
    refine ⟨fun h0 => (by rw [h0] at hr; cases hr), fun j hj => ?_⟩
    rcases Decidable.em (j = i) with e | e
    · exact e ▸ hy.go hi hS ⟨hS, H⟩
    · have h1 := ready_mono hj e
      rw [H.1] at h1
      cases h1
  | succ f ih =>
    intro listed a w hfree hr hy hS H
    refine ⟨fun h0 => (by rw [h0] at hr; cases hr), fun j hj => ?_⟩
    rcases Decidable.em (j = i) with e | e
    · exact e ▸ hy.go hi hS ⟨hS, H⟩
    · obtain ⟨hun, oj, hoj, hall⟩ := mem_ready.1 hj
      have hno : ∀ e ∈ oj.after, Region.binds .any e = true → e.on ≠ i := by
        intro e he hb hon
        have h1 := hall e he hb
        have h0 := (mem_ready.1 hr).1
        rw [hon] at h1
        rcases Nat.lt_or_ge i listed.size with hlt | hge
        · simp [hlt] at h0 h1
          rw [h0] at h1
          cases h1
        · simp [Array.getElem?_eq_none hge] at h1
      have h2 := hy.across hoj (hfree j oj hoj e hun hno) (fun cs b => hsel i o cs b hi) (fun cs b => hsel j oj cs b hoj) (H.2 j (ready_mono hj e))
      refine wpOp_mono (fun b w' h3 => ⟨h3.2.1, ih _ b w' (fun k ok hk hki hkl hkn => hfree k ok hk hki ?_ hkn) (ready_mono hr (Ne.symm e)) h3.1 h3.2.1 ?_⟩) h2
      · rcases Decidable.em (j = k) with e2 | e2
        · exact e2 ▸ hun
        · rwa [getD_set_ne true e2] at hkl
      · rw [Array.setIfInBounds_comm _ _ e]
        exact h3.2.2
end
section
variable {P : Program} {N : Fr} {Q : Exit → Act → World → Prop} {E : Env} {I S : World → Prop} {ops : Array Oper} {f : Nat} {listed : Array Bool}
theorem TH.takeC {o : Oper} {d : Nat} {r : Value} {g : FuncId} {fn : Func} {xs : List Operand} {ts : Array TypeId} {vs : List Value} {listed' : Array Bool} (i : Nat) (hi : ops[i]? = some o) (hs : Region.noSelect ops = true) (hf : Region.free .any ops listed i = true) (hr : (Region.ready .any ops listed).contains i = true) (hl : listed.setIfInBounds i true = listed')
    (hg : o.guard = none) (hd : o.dst = some d) (hN : Nat.blt d N.n = true) (ho : o.op = .call { callee := .value (.func g), args := xs.toArray, argTypes := ts }) (hx : evs E xs = some vs) (hfn : P.funcs[g]? = some fn) (hn : (fn.name == "runtime.NumGoroutine") = false) (hb : fn.body.isNone = false)
    (hc : ∀ w, S w → Calls P g vs.toArray w fun e w' => e = .returned r ∧ w' = w) (hS : ∀ w, I w → S w)
    (h : TH P N ops S Q f listed' ((d, r) :: E) I) : TH P N ops S Q (f + 1) listed E I := fun a w ha hw => by
  subst hl
  refine held_call hi (Region.noSelect_spec hs) f listed a w (Region.free_spec hi hf) (by simpa using hr) (v := r) ⟨by simp [Region.wanted, hg], fun w' hw' => ⟨g, vs.toArray, enters ha ho hx hfn hn hb, hc w' hw'⟩⟩ (hS w hw) ?_
  exact h (a.put o.dst r) w (hd ▸ ha.put d r (by simpa [Nat.blt_eq] using hN)) hw
/-! operations with a guard -/
theorem op_of_list' {o : Oper} {i : Nat} {K : Act → World → Prop} {a : Act} {w : World} (hi : ops[i]? = some o) (h : wpList P ops (Exit.then K (NoPanic Q)) [o] a w) : wpOp P ops (NoPanic Q) i K a w := by
  unfold wpOp
  rw [hi]
  unfold wpList at h
  dsimp only
  by_cases hw : Region.wanted o (yielded ops a.tmps) = true
  · simp only [hw, if_true] at h ⊢
    rcases h with h | ⟨h1, h2⟩
    · left
      unfold Oper.wp at h ⊢
      generalize (execOp a.eval o).run P w = r at *
      cases r with
      | ok n w' => cases n <;> exact h
      | halt x w' => cases x <;> exact h
    · exact .inr ⟨h1, h2⟩
  · rw [if_neg hw] at h ⊢
    exact h
theorem TH.only' {o : Oper} {listed' : Array Bool} (i : Nat) (hi : ops[i]? = some o) (hr : Region.ready .any ops listed = [i]) (hl : listed.setIfInBounds i true = listed')
    (h : TL P N ops (Exit.then (Hd P ops S Q f listed') (NoPanic Q)) [o] E I) : TH P N ops S Q (f + 1) listed E I := fun a w ha hw => by
  subst hl
  refine wpAnyH_all hr (by simp) fun j hj => ?_
  have : j = i := by simpa using hj
  subst this
  exact op_of_list' hi (h a w ha hw)
theorem TH.two' {o o' : Oper} {listed1 listed2 : Array Bool} (i j : Nat) (hi : ops[i]? = some o) (hj : ops[j]? = some o') (hr : Region.ready .any ops listed = [i, j]) (hl1 : listed.setIfInBounds i true = listed1) (hl2 : listed.setIfInBounds j true = listed2)
    (h : TL P N ops (Exit.then (Hd P ops S Q f listed1) (NoPanic Q)) [o] E I) (h' : TL P N ops (Exit.then (Hd P ops S Q f listed2) (NoPanic Q)) [o'] E I) : TH P N ops S Q (f + 1) listed E I := fun a w ha hw => by
  subst hl1 hl2
  refine wpAnyH_all hr (by simp) fun k hk => ?_
  have : k = i ∨ k = j := by simpa using hk
  rcases this with rfl | rfl
  · exact op_of_list' hi (h a w ha hw)
  · exact op_of_list' hj (h' a w ha hw)
theorem TH.takeG {o : Oper} {d j dg : Nat} {b : Bool} {v : Value} {listed' : Array Bool} (i : Nat) (hi : ops[i]? = some o) (hs : Region.noSelect ops = true) (hf : Region.free .any ops listed i = true) (hr : (Region.ready .any ops listed).contains i = true) (hl : listed.setIfInBounds i true = listed')
    (hg : o.guard = some (j, b)) (hgd : (ops[j]?).bind (·.dst) = some dg) (hgE : look E dg = some (.bool b)) (hd : o.dst = some d) (hN : Nat.blt d N.n = true) (hv : Gives P N o E S v) (hS : ∀ w, I w → S w)
    (h : TH P N ops S Q f listed' ((d, v) :: E) I) : TH P N ops S Q (f + 1) listed E I := fun a w ha hw => by
  subst hl
  refine wpAnyH_take hi hs hf hr (fun c a w h => h) (v := v) (.inl ⟨by rw [wanted_of ha hg hgd hgE]; simp, fun w' hw' => hv a w' ha hw'⟩) (hS w hw) ?_
  exact h (a.put o.dst v) w (hd ▸ ha.put d v (by simpa [Nat.blt_eq] using hN)) hw
theorem TH.off {o : Oper} {d j dg : Nat} {b b' : Bool} {listed' : Array Bool} (i : Nat) (hi : ops[i]? = some o) (hs : Region.noSelect ops = true) (hf : Region.free .any ops listed i = true) (hr : (Region.ready .any ops listed).contains i = true) (hl : listed.setIfInBounds i true = listed')
    (hg : o.guard = some (j, b')) (hgd : (ops[j]?).bind (·.dst) = some dg) (hgE : look E dg = some (.bool b)) (hne : (b == b') = false) (hd : o.dst = some d) (hN : Nat.blt d N.n = true) (hS : ∀ w, I w → S w)
    (h : TH P N ops S Q f listed' ((d, undef) :: E) I) : TH P N ops S Q (f + 1) listed E I := fun a w ha hw => by
  subst hl
  refine wpAnyH_take hi hs hf hr (fun c a w h => h) (v := undef) (.inr ⟨by rw [wanted_of ha hg hgd hgE, hne], rfl⟩) (hS w hw) ?_
  exact h (a.put o.dst undef) w (hd ▸ ha.put d undef (by simpa [Nat.blt_eq] using hN)) hw
theorem TH.offU {o : Oper} {d j dg : Nat} {b' : Bool} {listed' : Array Bool} (i : Nat) (hi : ops[i]? = some o) (hs : Region.noSelect ops = true) (hf : Region.free .any ops listed i = true) (hr : (Region.ready .any ops listed).contains i = true) (hl : listed.setIfInBounds i true = listed')
    (hg : o.guard = some (j, b')) (hgd : (ops[j]?).bind (·.dst) = some dg) (hgE : look E dg = some undef) (hd : o.dst = some d) (hN : Nat.blt d N.n = true) (hS : ∀ w, I w → S w)
    (h : TH P N ops S Q f listed' ((d, undef) :: E) I) : TH P N ops S Q (f + 1) listed E I := fun a w ha hw => by
  subst hl
  have h1 : yielded ops a.tmps j = none := by
    have := ha.slot dg _ hgE
    simp [yielded, hgd, this, undef]
  have hw1 : Region.wanted o (yielded ops a.tmps) = false := by
    unfold Region.wanted
    rw [hg]
    simp [h1]
  refine wpAnyH_take hi hs hf hr (fun c a w h => h) (v := undef) (.inr ⟨hw1, rfl⟩) (hS w hw) ?_
  exact h (a.put o.dst undef) w (hd ▸ ha.put d undef (by simpa [Nat.blt_eq] using hN)) hw
end
end Go.Proofs.Ytmbcclgnjobikaa
