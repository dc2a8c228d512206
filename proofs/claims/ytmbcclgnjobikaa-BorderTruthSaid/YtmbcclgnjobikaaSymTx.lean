/-
  A walk by rules: how code ends (normally, by leaving a block, by a return), and what is known then. No program is imported.
-/
import Derived.Test.YtmbcclgnjobikaaSymOps
namespace Go.Proofs.Ytmbcclgnjobikaa
open Go.RowKit
set_option linter.unusedVariables false
set_option linter.unusedSimpArgs false
/-- the code has come to this end -/
def TX (N : Fr) (Q : Exit → Act → World → Prop) (e : Exit) (E : Env) (I : World → Prop) : Prop := ∀ a w, EnvOk N E a → I w → Q e a w
section
variable {P : Program} {N : Fr} {Q : Exit → Act → World → Prop} {E : Env} {I : World → Prop} {id i : Nat} {y : Code}
theorem TX.of {e : Exit} (h : ∀ a w, EnvOk N E a → I w → Q e a w) : TX N Q e E I := h
theorem TL.end_ {ops : Array Oper} (h : TX N Q .normal E I) : TL P N ops Q [] E I := h
theorem TC.skip_ (h : TX N Q .normal E I) : TC P N Q .skip E I := fun a w ha hw => wp_skip (h a w ha hw)
theorem TC.exit_ (h : TX N Q (.exit id) E I) : TC P N Q (.exit id) E I := fun a w ha hw => wp_exit (h a w ha hw)
theorem TC.ret_ (h : TX N Q .ret E I) : TC P N Q .ret E I := fun a w ha hw => wp_ret (h a w ha hw)
theorem TC.quiet_ {l : List Oper} {E' : Env} (hm : P.follows .mixedOrders = true) (hB : Region.lexB .any l.toArray = true) (hI : ∀ w, I w → I { w with drawn := w.drawn + 1 })
    (h : TQ P N l.toArray (EnvOk N E') l E I) (hy : TX N Q .normal E' I) : TC P N Q (.region id l.toArray true) E I := TC.quiet hm hB hI h fun a w ha hw => hy a w ha hw
theorem TQ.end_ {ops : Array Oper} : TQ P N ops (EnvOk N E) [] E I := fun a ha => ha
theorem TS.end_ {ops : Array Oper} {l : List Oper} (h : TL P N ops Q l E I) : TS P N ops (fun a w => wpList P ops Q l a w) [] E I := fun a w ha hw => h a w ha hw
theorem TX.then_ (h : TC P N Q y E I) : TX N (Exit.then (y.wp P Q) Q) .normal E I := h
theorem TX.then_exit {J : Act → World → Prop} (h : TX N Q (.exit i) E I) : TX N (Exit.then J Q) (.exit i) E I := h
theorem TX.then_ret {J : Act → World → Prop} (h : TX N Q .ret E I) : TX N (Exit.then J Q) .ret E I := h
theorem TX.in_normal (h : TX N Q .normal E I) : TX N (Exit.inBlock id Q) .normal E I := h
theorem TX.in_ret (h : TX N Q .ret E I) : TX N (Exit.inBlock id Q) .ret E I := h
theorem TX.in_same (h : TX N Q .normal E I) : TX N (Exit.inBlock id Q) (.exit id) E I := fun a w ha hw => by
  simpa [Exit.inBlock] using h a w ha hw
theorem TX.in_other (hne : Nat.beq i id = false) (h : TX N Q (.exit i) E I) : TX N (Exit.inBlock id Q) (.exit i) E I := fun a w ha hw => by
  have : i ≠ id := fun e => by subst e; simp at hne
  have h2 := h a w ha hw
  simpa [Exit.inBlock, this, Ne.symm this] using h2
/-- the end of a loop's round -/
theorem TX.round {α : Type} {E' : α → Env} {I' : α → World → Prop} {m : α → Nat} {b : Nat} (y : α) (hm : m y < b) (hE : Has E (E' y)) (hI : ∀ w, I w → I' y w) :
    TX N (Exit.then (fun a w => ∃ y, m y < b ∧ EnvOk N (E' y) a ∧ I' y w) Q) .normal E I := fun a w ha hw => ⟨y, hm, ha.of_list hE, hI w hw⟩
/-- a loop -/
theorem TC.loop_ {c : Code} {α : Type} (E' : α → Env) (I' : α → World → Prop) (m : α → Nat) (x0 : α) (hE : Has E (E' x0)) (hI : ∀ w, I w → I' x0 w)
    (step : ∀ x, TC P N (Exit.then (fun a w => ∃ y, m y < m x ∧ EnvOk N (E' y) a ∧ I' y w) Q) c (E' x) (I' x)) : TC P N Q (.loop c) E I :=
  TC.loop E' I' m x0 (fun a w ha hw => ⟨ha.of_list hE, hI w hw⟩) step
/-- other names for what is known -/
theorem TC.cut (E' : Env) (I' : World → Prop) (hE : Has E E') (hI : ∀ w, I w → I' w) (h : TC P N Q y E' I') : TC P N Q y E I := fun a w ha hw => h a w (ha.of_list hE) (hI w hw)
theorem TX.cut {e : Exit} (E' : Env) (I' : World → Prop) (hE : Has E E') (hI : ∀ w, I w → I' w) (h : TX N Q e E' I') : TX N Q e E I := fun a w ha hw => h a w (ha.of_list hE) (hI w hw)
end
end Go.Proofs.Ytmbcclgnjobikaa
