/-
  A walk by rules: the greater of two numbers; bools compared.
-/
import Derived.Test.YtmbcclgnjobikaaSymPair
import Derived.BigFrame
import Derived.Laws.Small
namespace Go.Proofs.Ytmbcclgnjobikaa
open Go.RowKit
set_option linter.unusedVariables false
set_option linter.unusedSimpArgs false
section
variable {P : Program} {N : Fr} {Q : Exit → Act → World → Prop} {E : Env} {ops : Array Oper} {l : List Oper} {o : Oper} {I : World → Prop}
theorem gives_max0 {x y : Operand} {ts : Array TypeId} {m : Nat} (ho : o.op = .call { callee := .builtin .max, args := #[x, y], argTypes := ts }) (hx : ev E x = some (.int .i64 0)) (hy : ev E y = some (.int .i64 (m : Int))) : Gives P N o E I (.int .i64 (m : Int)) := fun a w ha _ => by
  unfold execOp; rw [ho]
  simp only [resolve, invoke, builtin, Sem.run_bind, Sem.run_pure, Result.andThen_ok, List.map_toArray, List.map_cons, List.map_nil, ha.eval hx, ha.eval hy]
  simp [go_sem, Builtin.max_, Builtin.max2]
  try omega
theorem bin_eqb {t : TypeId} (ht : P.underlying t = some .bool) {x y : Operand} (a b : Bool) (w : World) : (do eqGuard .eql t x y (.bool a) (.bool b); binOp .eql t (.bool a) (.bool b) : Sem Value).run P w = .ok (.bool (a == b)) w := by
  have h : (eqGuard .eql t x y (.bool a) (.bool b) : Sem Unit).run P w = .ok () w := by simp [eqGuard, go_sem]
  have h2 : (binOp .eql t (.bool a) (.bool b) : Sem Value).run P w = .ok (.bool (a == b)) w := by
    have e : (Op.equalIn Op.maxDepth t (.bool a) (.bool b)).run P w = .ok (a == b) w := by
      rw [show Op.maxDepth = 9999 + 1 from rfl]
      exact run_equalIn_bool w 9999 t a b ht
    simp [binOp, Op.equal, go_sem, e]
  simp only [Sem.run_bind, h, Result.andThen_ok, h2]
theorem bin_geq_t {xt : TypeId} {k : IntKind} {m n : Int} (h : m ≥ n) (w : World) : (binOp .geq xt (.int k m) (.int k n)).run P w = .ok (.bool true) w := by rw [bin_geq, decide_eq_true h]
theorem bin_geq_f {xt : TypeId} {k : IntKind} {m n : Int} (h : ¬ m ≥ n) (w : World) : (binOp .geq xt (.int k m) (.int k n)).run P w = .ok (.bool false) w := by rw [bin_geq, decide_eq_false h]
theorem bin_leq_t {xt : TypeId} {k : IntKind} {m n : Int} (h : m ≤ n) (w : World) : (binOp .leq xt (.int k m) (.int k n)).run P w = .ok (.bool true) w := by rw [bin_leq, decide_eq_true h]
theorem bin_leq_f {xt : TypeId} {k : IntKind} {m n : Int} (h : ¬ m ≤ n) (w : World) : (binOp .leq xt (.int k m) (.int k n)).run P w = .ok (.bool false) w := by rw [bin_leq, decide_eq_false h]
end
end Go.Proofs.Ytmbcclgnjobikaa
