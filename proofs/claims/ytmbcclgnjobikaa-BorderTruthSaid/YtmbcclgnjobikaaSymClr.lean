/-
  A walk by rules: a row whose end is cleared, the tail of a row. No program is imported.
-/
import Derived.Test.YtmbcclgnjobikaaSymSrt
namespace Go.Proofs.Ytmbcclgnjobikaa
open Go.RowKit
set_option linter.unusedVariables false
set_option linter.unusedSimpArgs false
section
variable {P : Program} {N : Fr} {Q : Exit → Act → World → Prop} {E : Env} {w0 : Base} {L : List Pc} {ops : Array Oper} {l : List Oper} {o : Oper}
theorem TL.rowclear {t e : TypeId} {s : Operand} {g off k n c m cc size : Nat} {z : Value} {xs zs : List Value} (hg : o.guard = none) (hd : o.dst = none) (ho : o.op = .call { callee := .builtin .clear, args := #[s], argTypes := #[t] }) (hs : ev E s = some (.slice (some ⟨g, off, none⟩) m cc))
    (ht : P.underlying t = some (.slice e)) (hz : ∀ w : World, (zeroValue e).run P w = .ok z w) (hzs : (Builtin.zeroCells z.cells m).toList = zs) (h1 : ∀ u ∈ zs, u.oneCell' = true) (hm : 0 < m)
    (hk : L[k]? = some (.row (.slice (some ⟨g, 0, none⟩) n c) e size n xs)) (hl : off + zs.length ≤ xs.length) {xs' : List Value} (hL : xs.take off ++ zs ++ xs.drop (off + zs.length) = xs')
    (h : TL P N ops Q l E (Pm w0 (L.set k (.row (.slice (some ⟨g, 0, none⟩) n c) e size n xs')))) : TL P N ops Q (o :: l) E (Pm w0 L) := fun a w ha hw =>
  wpList_plain hg fun K hK => by
    subst hL
    obtain ⟨cur, hcur, hfit, hown⟩ := row_put (hw.at_ hk) hl
    have hrun : (execOp a.eval o).run P w = .ok (.value (.tuple #[])) (w.setRow g (cur.toList.take off ++ zs ++ cur.toList.drop (off + zs.length)).toArray) := by
      unfold execOp; rw [ho]
      have hst := run_storeCells_at (P := P) g off e zs 0 cur w hcur (by simpa using hfit) h1
      simp only [Nat.add_zero] at hst
      obtain ⟨m', rfl⟩ : ∃ m', m = m' + 1 := ⟨m - 1, by omega⟩
      simp only [resolve, invoke, builtin, Sem.run_bind, Sem.run_pure, Result.andThen_ok, List.map_toArray, List.map_cons, List.map_nil, ha.eval hs]
      unfold Builtin.clear_
      simp [go_sem, run_underlying ht, hz]
      show ((Sem.run P (storeCells _ (Builtin.zeroCells z.cells (m' + 1)).toList) w).andThen _).andThen _ = _
      rw [hzs, hst, List.append_assoc]
      rfl
    unfold Oper.wp
    rw [hrun]
    show K (a.put o.dst _) _
    rw [hd]
    exact hK _ _ (h _ _ (ha.put0 _) (hw.turn hk (grown_setRow _ _) hown (fun g' hg' => .inl hg') (fun k o e => by cases e)))
theorem zeroCells_one (v : Value) (m : Nat) : (Builtin.zeroCells #[v] m).toList = List.replicate m v := by
  refine List.ext_getElem? fun i => ?_
  unfold Builtin.zeroCells
  simp [List.getElem?_replicate, Nat.mod_one]
  by_cases h : i < m
  · rw [if_pos h, List.getElem?_range h]; rfl
  · rw [if_neg h, List.getElem?_eq_none (by simpa using h)]; rfl
/-- the place of an element of a slice of a row's tail -/
theorem at_rowO {t e : TypeId} (ht : P.underlying t = some (.slice e)) (hs : ∀ w : World, (sizeOf e).run P w = .ok 1 w) (g o n c i : Nat) (hi : i < n) {z : Int} (hz : z = (i : Int)) (w : World) :
    (Instr.indexAt t (.slice (some ⟨g, o, none⟩) n c) (.int .i64 z)).run P w = .ok (.pointer (some ⟨g, o + i, none⟩)) w := by
  have := at_el (P := P) ht hs (A := some ⟨g, o, none⟩) (b := g) (off := o) rfl n c i hi hz w
  rwa [Nat.mul_one] at this
/-- the tail of a row -/
theorem gives_tail {t : TypeId} {x lo : Operand} {I : World → Prop} {g n c k : Nat} {q : IntKind} {z : Int} (ho : o.op = .slice t x (some lo) none none) (hx : ev E x = some (.slice (some ⟨g, 0, none⟩) n c)) (hl : ev E lo = some (.int q z)) (hz : z = (k : Int)) (ht : P.underlying t = some (.slice (P.elem t))) (hs : ∀ w : World, (sizeOf (P.elem t)).run P w = .ok 1 w) (hk : k < c) (hn : k ≤ n) :
    Gives P N o E I (.slice (some ⟨g, k, none⟩) (n - k) (c - k)) := gives_sliceL ho hx hl fun w => by
  have h := cut_lo1 (P := P) ht hs (some ⟨g, 0, none⟩) n c k (k := q) hz hn w
  rw [if_neg (by omega), Option.map_some] at h
  have : (⟨g, 0, none⟩ : Addr).add k = ⟨g, k, none⟩ := by unfold Addr.add; split <;> simp_all
  rwa [this] at h
end
end Go.Proofs.Ytmbcclgnjobikaa
