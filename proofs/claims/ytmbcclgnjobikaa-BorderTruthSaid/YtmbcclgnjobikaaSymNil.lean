/-
  A walk by rules: a slice compared with nil. No program is imported.
-/
import Derived.Test.YtmbcclgnjobikaaSymHeld
import Derived.WalkSpells
namespace Go.Proofs.Ytmbcclgnjobikaa
open Go.RowKit
set_option linter.unusedVariables false
set_option linter.unusedSimpArgs false
set_option maxRecDepth 20000
section
variable {P : Program} {N : Fr} {E : Env} {I : World → Prop} {o : Oper}
theorem gives_bin2 {op : BinOp} {xt yt : TypeId} {x y : Operand} {vx vy v : Value} (ho : o.op = .binOp op xt x y yt) (hx : ev E x = some vx) (hy : ev E y = some vy)
    (hv : ∀ w : World, (do eqGuard op xt x y vx vy; binOp op xt vx vy : Sem Value).run P w = .ok v w) : Gives P N o E I v := fun a w ha _ => by
  unfold execOp; rw [ho]
  simp only [ha.eval hx, ha.eval hy]
  have := hv w
  simp only [Sem.run_bind] at this ⊢
  rw [this]
  rfl
theorem slice_nil {xt e : TypeId} (hu : P.underlying xt = some (.slice e)) {x y : Operand} {A : Option Addr} {n c : Nat} (w : World) :
    (do eqGuard .eql xt x y (.slice A n c) (.slice none 0 0); binOp .eql xt (.slice A n c) (.slice none 0 0) : Sem Value).run P w = .ok (.bool A.isNone) w := by
  cases A <;> simp [eqGuard, binOp, go_sem, run_underlying hu, Op.equal, Op.maxDepth, Lib.run_equalIn_slice_nil w 9999 xt e _ n c 0 0 hu]
end
end Go.Proofs.Ytmbcclgnjobikaa
