/-
  A walk by rules: calls of function values; a row's end moved down. No program is imported.
-/
import Derived.Test.YtmbcclgnjobikaaSymClr
import Derived.Test.YtmbcclgnjobikaaSymPair
namespace Go.Proofs.Ytmbcclgnjobikaa
open Go.RowKit
set_option linter.unusedVariables false
set_option linter.unusedSimpArgs false
section
variable {P : Program} {N : Fr} {Q : Exit → Act → World → Prop} {E : Env} {I : World → Prop} {ops : Array Oper} {l : List Oper} {o : Oper}
/-- the operation enters a function -/
def Ent (P : Program) (N : Fr) (E : Env) (o : Oper) (f : FuncId) (us : Array Value) : Prop := ∀ a w, EnvOk N E a → (execOp a.eval o).run P w = .ok (.enter f us) w
theorem ent_val {x : Operand} {xs : List Operand} {ts : Array TypeId} {vs : List Value} {f : FuncId} {fn : Func} {first cap us : Array Value} (ho : o.op = .call { callee := .value x, args := xs.toArray, argTypes := ts }) (hv : ev E x = some (.func (.func f) first cap)) (hx : evs E xs = some vs)
    (hf : P.funcs[f]? = some fn) (hn : (fn.name == "runtime.NumGoroutine") = false) (hb : fn.body.isNone = false) (hu : first ++ vs.toArray ++ cap = us) : Ent P N E o f us := fun a w ha => by
  unfold execOp; rw [ho]
  have harr : xs.toArray.map a.eval = vs.toArray := by rw [List.map_toArray, ha.evals hx]
  subst hu
  simp only [resolve, harr, ha.eval hv, Deferred.ofValue]
  have hn' : ¬ fn.name = "runtime.NumGoroutine" := by simpa using hn
  have hb' : ¬ fn.body = none := by intro e; rw [e] at hb; simp at hb
  simp [invoke, callFunc, hf, hn', hb', go_sem]
theorem TL.callE {α : Type} {d : Nat} {f : FuncId} {us : Array Value} {r : α → Value} {I' : α → World → Prop} (hg : o.guard = none) (hd : o.dst = some d) (hN : Nat.blt d N.n = true) (he : Ent P N E o f us)
    (hc : ∀ w, I w → Calls P f us w fun e w' => ∃ x, e = .returned (r x) ∧ I' x w') (h : ∀ x, TL P N ops Q l ((d, r x) :: E) (I' x)) : TL P N ops Q (o :: l) E I := fun a w ha hw =>
  wpList_plain hg fun K hK => by
    unfold Oper.wp
    rw [he a w ha, Oper.upon_enter]
    refine (hc w hw).mono ?_
    rintro e w' ⟨x, rfl, hI⟩
    show K (a.put o.dst (r x)) w'
    rw [hd]
    exact hK _ _ (h x _ _ (ha.put d _ (by simpa [Nat.blt_eq] using hN)) hI)
/-- a function value is called that changes nothing that was there -/
theorem TL.callE1 {w0 : Base} {L : List Pc} {d : Nat} {f : FuncId} {us : Array Value} {r : Value} (hg : o.guard = none) (hd : o.dst = some d) (hN : Nat.blt d N.n = true) (he : Ent P N E o f us)
    (hc : ∀ w, Pm w0 L w → Calls P f us w fun e w' => e = .returned r ∧ Below w.heap.size w w') (h : TL P N ops Q l ((d, r) :: E) (Pm w0 L)) : TL P N ops Q (o :: l) E (Pm w0 L) :=
  TL.callE (α := Unit) (r := fun _ => r) (I' := fun _ => Pm w0 L) hg hd hN he (fun w hw => (hc w hw).mono fun e w' ⟨he, hb⟩ => ⟨(), he, hw.below hb⟩) (fun _ => h)
/-- one that makes pieces of its own -/
theorem TL.callEPm {w0 : Base} {α : Type} {L : List Pc} {d : Nat} {f : FuncId} {us : Array Value} (r : α → Value) (Ln : α → List Pc) (hg : o.guard = none) (hd : o.dst = some d) (hN : Nat.blt d N.n = true) (he : Ent P N E o f us)
    (hc : ∀ w, Pm w0 L w → Calls P f us w fun en w' => ∃ x, en = .returned (r x) ∧ Pm w (Ln x) w')
    (h : ∀ x, TL P N ops Q l ((d, r x) :: E) (Pm w0 (Ln x ++ L))) (hna : ∀ x, noAbs (Ln x) = true := by intro x; rfl) : TL P N ops Q (o :: l) E (Pm w0 L) :=
  TL.callE (α := α) (r := r) (I' := fun x => Pm w0 (Ln x ++ L)) hg hd hN he (fun w hw => (hc w hw).mono fun en w' ⟨x, he, h2⟩ => ⟨x, he, hw.addAll h2 (hna x)⟩) h
theorem gives_makeFunc {f : Fn} {xs ys : List Operand} {us vs : List Value} (ho : o.op = .makeFunc f xs.toArray ys.toArray) (hx : evs E xs = some us) (hy : evs E ys = some vs) : Gives P N o E I (.func f us.toArray vs.toArray) := fun a w ha _ => by
  unfold execOp; rw [ho]
  have h1 : xs.toArray.map a.eval = us.toArray := by rw [List.map_toArray, ha.evals hx]
  have h2 : ys.toArray.map a.eval = vs.toArray := by rw [List.map_toArray, ha.evals hy]
  simp [h1, h2, Instr.makeFunc, go_sem]
end
section
variable {P : Program} {N : Fr} {Q : Exit → Act → World → Prop} {E : Env} {w0 : Base} {L : List Pc} {ops : Array Oper} {l : List Oper} {o : Oper}
/-- append of a row's end to its beginning, in place -/
theorem TL.shift {d k g n c cc i j size bytes : Nat} {t e : TypeId} {s x : Operand} {A : Option Addr} {xs : List Value} (hg : o.guard = none) (hd : o.dst = some d) (hN : Nat.blt d N.n = true)
    (ho : o.op = .call { callee := .builtin .append, args := #[s, x], argTypes := #[t, t] }) (hE : Elem P t e size bytes) (hs : ev E s = some (.slice (some ⟨g, 0, none⟩) i c)) (hx : ev E x = some (.slice A (n - j) cc))
    (hk : L[k]? = some (.row (.slice (some ⟨g, 0, none⟩) n c) e size n xs)) (hA : j < n → A = some ⟨g, j * size, none⟩) (hA0 : A ≠ none) (hij : i ≤ j) (hj : j ≤ n) (hnc : n ≤ c) (h1 : ∀ u ∈ xs, u.oneCell' = true) {xs' : List Value}
    (hL : xs.take (i * size) ++ xs.drop (j * size) ++ xs.drop (i * size + (xs.drop (j * size)).length) = xs') {M : Nat} (hM : M = i + (n - j))
    (h : TL P N ops Q l ((d, .slice (some ⟨g, 0, none⟩) M c) :: E) (Pm w0 (L.set k (.row (.slice (some ⟨g, 0, none⟩) n c) e size n xs')))) : TL P N ops Q (o :: l) E (Pm w0 L) := by
  subst hL hM
  refine TL.run (α := Unit) (r := fun _ => .slice (some ⟨g, 0, none⟩) (i + (n - j)) c) (I' := fun _ => Pm w0 (L.set k (.row (.slice (some ⟨g, 0, none⟩) n c) e size n (xs.take (i * size) ++ xs.drop (j * size) ++ xs.drop (i * size + (xs.drop (j * size)).length))))) hg hd hN (fun a w ha hw => ?_) (fun _ => h)
  obtain ⟨ti, z, hi, hz, hsz, hby, hzs⟩ := hE.info
  have hrow := hw.at_ hk
  have hlen : xs.length = n * size := hrow.1
  have hdl : (xs.drop (j * size)).length = (n - j) * size := by rw [List.length_drop, hlen, Nat.sub_mul]
  have hfit : i * size + (xs.drop (j * size)).length ≤ xs.length := by
    rw [hdl, hlen, ← Nat.add_mul]
    exact Nat.mul_le_mul_right _ (by omega)
  obtain ⟨cur, hcur, hfc, hown⟩ := row_put hrow hfit
  obtain ⟨ad, rfl⟩ : ∃ ad, A = some ad := by
    cases A with
    | none => exact absurd rfl hA0
    | some ad => exact ⟨ad, rfl⟩
  refine ⟨(), w.setRow g (cur.toList.take (i * size) ++ xs.drop (j * size) ++ cur.toList.drop (i * size + (xs.drop (j * size)).length)).toArray, ?_, hw.turn hk (grown_setRow _ _) hown (fun g' hg' => .inl hg') (fun k o e => by cases e)⟩
  unfold execOp; rw [ho]
  have hrun := run_append_room (P := P) w t o.type e ti hE.und hi g i c cur hcur ad (n - j) cc (xs.drop (j * size)) (by rw [hdl, hsz]) (fun q u hu => by
    have hjn : j < n := by
      rcases Nat.lt_or_ge j n with hh | hh
      · exact hh
      · have : (xs.drop (j * size)).length = 0 := by rw [hdl, Nat.sub_eq_zero_of_le hh, Nat.zero_mul]
        rw [List.eq_nil_of_length_eq_zero this] at hu
        cases hu
    have := hA hjn
    cases this
    rw [List.getElem?_drop] at hu
    have h3 := pm_row hw hk hu
    rw [← h3]
    congr 1
    unfold Addr.add; split <;> simp_all) (fun u hu => h1 u (List.mem_of_mem_drop hu)) (by omega) (by rw [hsz]; exact hfc)
  rw [hsz] at hrun
  simp only [resolve, invoke, builtin, Sem.run_bind, Sem.run_pure, Result.andThen_ok, List.map_toArray, List.map_cons, List.map_nil, ha.eval hs, ha.eval hx, hrun]
theorem gives_slice3 {t : TypeId} {size : Nat} {x lo hi mx : Operand} {A : Option Addr} {n c i j m : Nat} {I : World → Prop} (ho : o.op = .slice t x (some lo) (some hi) (some mx)) (hx : ev E x = some (.slice A n c)) (hl : ev E lo = some (.int .i64 ((i : Nat) : Int))) (hh : ev E hi = some (.int .i64 ((j : Nat) : Int))) (hm : ev E mx = some (.int .i64 ((m : Nat) : Int)))
    (ht : P.underlying t = some (.slice (P.elem t))) (hs : ∀ w : World, (sizeOf (P.elem t)).run P w = .ok size w) (h1 : i ≤ j) (h2 : j ≤ m) (h3 : m ≤ c) : Gives P N o E I (.slice (if m = i then A else A.map (·.add (i * size))) (j - i) (m - i)) := fun a w ha _ => by
  unfold execOp; rw [ho]
  simp only [Option.map_some, ha.eval hx, ha.eval hl, ha.eval hh, ha.eval hm, run_sliceAt_slice w t _ _ _ _ ht, run_slice_lhm w t A n c ht .i64 .i64 .i64 ((i : Nat) : Int) ((j : Nat) : Int) ((m : Nat) : Int) (by omega) (by omega) (by omega) (by omega), hs, Result.andThen_ok, Sem.run_bind, Sem.run_pure, sliced, Int.toNat_natCast]
end
end Go.Proofs.Ytmbcclgnjobikaa
