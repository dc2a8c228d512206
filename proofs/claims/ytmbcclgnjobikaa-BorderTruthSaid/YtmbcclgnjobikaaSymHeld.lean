/-
  A walk by rules: a region that draws its order. The reads are taken first (each yields its value in every world that meets S); whatever else may come up is done one at a time, and S is shown behind it. No program is imported.
-/
import Derived.Test.YtmbcclgnjobikaaSymBin
import Derived.OrdersHeld
import Derived.Deep.RegionHeld3
namespace Go.Proofs.Ytmbcclgnjobikaa
open Go.RowKit
set_option linter.unusedVariables false
set_option linter.unusedSimpArgs false
def TH (P : Program) (N : Fr) (ops : Array Oper) (S : World → Prop) (Q : Exit → Act → World → Prop) (f : Nat) (listed : Array Bool) (E : Env) (I : World → Prop) : Prop :=
  ∀ a w, EnvOk N E a → I w → wpAnyH P .any ops (NoPanic Q) S f listed a w
section
variable {P : Program} {N : Fr} {Q : Exit → Act → World → Prop} {E : Env} {I S : World → Prop} {ops : Array Oper} {f : Nat} {listed : Array Bool}
theorem TC.held {id : Nat} {l : List Oper} {ls : Array Bool} {n : Nat} (S : World → Prop) (hm : P.follows .mixedOrders = true) (hn : l.toArray.size = n) (hls : Array.replicate n false = ls) (hI : ∀ w, I w → I { w with drawn := w.drawn + 1 })
    (h : TH P N l.toArray S Q n ls E I) : TC P N Q (.region id l.toArray true) E I := fun a w ha hw => by
  subst hn hls
  exact wp_region_noPanic (wp_region_held (S := S) hm (h a _ ha (hI w hw)))
/-- take number i first -/
theorem TH.take {o : Oper} {d : Nat} {v : Value} {listed' : Array Bool} (i : Nat) (hi : ops[i]? = some o) (hs : Region.noSelect ops = true) (hf : Region.free .any ops listed i = true) (hr : (Region.ready .any ops listed).contains i = true) (hl : listed.setIfInBounds i true = listed')
    (hg : o.guard = none) (hd : o.dst = some d) (hN : Nat.blt d N.n = true) (hv : Gives P N o E S v) (hS : ∀ w, I w → S w)
    (h : TH P N ops S Q f listed' ((d, v) :: E) I) : TH P N ops S Q (f + 1) listed E I := fun a w ha hw => by
  subst hl
  refine wpAnyH_take hi hs hf hr (fun c a w h => h) (v := v) (.inl ⟨by simp [Region.wanted, hg], fun w' hw' => hv a w' ha hw'⟩) (hS w hw) ?_
  have := h (a.put o.dst v) w (hd ▸ ha.put d v (by simpa [Nat.blt_eq] using hN)) hw
  exact this
/-- behind an operation that was carried out -/
def Hd (P : Program) (ops : Array Oper) (S : World → Prop) (Q : Exit → Act → World → Prop) (f : Nat) (listed : Array Bool) : Act → World → Prop := fun a w => S w ∧ wpAnyH P .any ops (NoPanic Q) S f listed a w
theorem TX.held (hS : ∀ w, I w → S w) (h : TH P N ops S Q f listed E I) : TX N (Exit.then (Hd P ops S Q f listed) (NoPanic Q)) .normal E I := fun a w ha hw => ⟨hS w hw, h a w ha hw⟩
theorem op_of_list {o : Oper} {i : Nat} {K : Act → World → Prop} {a : Act} {w : World} (hi : ops[i]? = some o) (hg : o.guard = none) (h : wpList P ops (Exit.then K (NoPanic Q)) [o] a w) : wpOp P ops (NoPanic Q) i K a w := by
  unfold wpOp
  simp only [hi]
  unfold wpList at h
  have hw : Region.wanted o (yielded ops a.tmps) = true := by simp [Region.wanted, hg]
  simp only [hw, if_true] at h ⊢
  rcases h with h | ⟨h1, h2⟩
  · refine .inl ?_
    unfold Oper.wp at h ⊢
    generalize (execOp a.eval o).run P w = r at *
    cases r with
    | ok n w' => cases n <;> exact h
    | halt x w' => cases x <;> exact h
  · exact .inr ⟨h1, h2⟩
/-- number i alone may come up -/
theorem TH.only {o : Oper} {listed' : Array Bool} (i : Nat) (hi : ops[i]? = some o) (hr : Region.ready .any ops listed = [i]) (hl : listed.setIfInBounds i true = listed') (hg : o.guard = none)
    (h : TL P N ops (Exit.then (Hd P ops S Q f listed') (NoPanic Q)) [o] E I) : TH P N ops S Q (f + 1) listed E I := fun a w ha hw => by
  subst hl
  refine wpAnyH_all hr (by simp) fun j hj => ?_
  have : j = i := by simpa using hj
  subst this
  exact op_of_list hi hg (h a w ha hw)
/-- two may come up -/
theorem TH.two {o o' : Oper} {listed1 listed2 : Array Bool} (i j : Nat) (hi : ops[i]? = some o) (hj : ops[j]? = some o') (hr : Region.ready .any ops listed = [i, j]) (hl1 : listed.setIfInBounds i true = listed1) (hl2 : listed.setIfInBounds j true = listed2) (hg : o.guard = none) (hg' : o'.guard = none)
    (h : TL P N ops (Exit.then (Hd P ops S Q f listed1) (NoPanic Q)) [o] E I) (h' : TL P N ops (Exit.then (Hd P ops S Q f listed2) (NoPanic Q)) [o'] E I) : TH P N ops S Q (f + 1) listed E I := fun a w ha hw => by
  subst hl1 hl2
  refine wpAnyH_all hr (by simp) fun k hk => ?_
  have : k = i ∨ k = j := by simpa using hk
  rcases this with rfl | rfl
  · exact op_of_list hi hg (h a w ha hw)
  · exact op_of_list hj hg' (h' a w ha hw)
theorem TH.done (hr : Region.ready .any ops listed = []) (h : TX N Q .normal E I) : TH P N ops S Q f listed E I := fun a w ha hw => wpAnyH_done (Q := NoPanic Q) hr (NoPanic.normal (h a w ha hw)) f
theorem Pm.sel {w0 : Base} {w : World} {L L' : List Pc} (h : Pm w0 L w) (hs : L'.Sublist L) : Pm w0 L' w := ⟨h.bel, fun q hq => h.own q (hs.subset hq), h.apart.sublist hs, h.oth, h.low⟩
end
end Go.Proofs.Ytmbcclgnjobikaa
