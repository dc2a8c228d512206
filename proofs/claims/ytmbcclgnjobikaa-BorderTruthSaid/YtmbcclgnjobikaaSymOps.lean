/-
  A walk by rules: the operations over memory in pieces (loads, stores, new blocks, rows that grow, slices, calls). No program is imported.
-/
import Derived.Test.YtmbcclgnjobikaaSymPc
namespace Go.Proofs.Ytmbcclgnjobikaa
open Go.RowKit
set_option linter.unusedVariables false
set_option linter.unusedSimpArgs false
section
variable {P : Program} {N : Fr} {Q : Exit → Act → World → Prop} {E : Env} {w0 : Base} {L : List Pc} {ops : Array Oper} {l : List Oper} {o : Oper}

/-- an operation that does whatever is known of it -/
theorem TL.run {I : World → Prop} {α : Type} {d : Nat} {r : α → Value} {I' : α → World → Prop} (hg : o.guard = none) (hd : o.dst = some d) (hN : Nat.blt d N.n = true)
    (hr : ∀ a w, EnvOk N E a → I w → ∃ x w', (execOp a.eval o).run P w = .ok (.value (r x)) w' ∧ I' x w')
    (h : ∀ x, TL P N ops Q l ((d, r x) :: E) (I' x)) : TL P N ops Q (o :: l) E I := fun a w ha hw =>
  wpList_plain hg fun K hK => by
    obtain ⟨x, w', hx, hI⟩ := hr a w ha hw
    unfold Oper.wp
    rw [hx]
    show K (a.put o.dst _) _
    rw [hd]
    exact hK _ _ (h x _ _ (ha.put d _ (by simpa [Nat.blt_eq] using hN)) hI)
theorem TL.pnew {d : Nat} {t : TypeId} {cs : List Value} (hg : o.guard = none) (hd : o.dst = some d) (hN : Nat.blt d N.n = true)
    (hr : ∀ a w, EnvOk N E a → (execOp a.eval o).run P w = .ok (.value (.pointer (some ⟨w.heap.size, 0, none⟩))) (w.alloc (.cells cs.toArray t)))
    (h : ∀ g, TL P N ops Q l ((d, .pointer (some ⟨g, 0, none⟩)) :: E) (Pm w0 (.blk g t cs :: L))) : TL P N ops Q (o :: l) E (Pm w0 L) :=
  TL.run (α := Nat) (r := fun g => .pointer (some ⟨g, 0, none⟩)) (I' := fun g => Pm w0 (.blk g t cs :: L)) hg hd hN (fun a w ha hw => ⟨w.heap.size, _, hr a w ha, hw.new t cs⟩) h
/-- a slice that is spelled out: a new row -/
theorem TL.prow {d : Nat} {t e : TypeId} {n : Nat} {xs : List (Nat × Operand)} {vs : List (Nat × Value)} {cs : List Value} (hg : o.guard = none) (hd : o.dst = some d) (hN : Nat.blt d N.n = true)
    (ho : o.op = .buildSlice t n xs.toArray) (hx : evp E xs = some vs) (hr : ∀ w : World, (Instr.buildSlice t n vs.toArray).run P w = .ok (.slice (some ⟨w.heap.size, 0, none⟩) n n) (w.alloc (.cells cs.toArray e))) (hn : n ≤ maxLen) (hc : cs.length = n * 1)
    (h : ∀ g, TL P N ops Q l ((d, .slice (some ⟨g, 0, none⟩) n n) :: E) (Pm w0 (.row (.slice (some ⟨g, 0, none⟩) n n) e 1 n cs :: L))) : TL P N ops Q (o :: l) E (Pm w0 L) :=
  TL.run (α := Nat) (r := fun g => .slice (some ⟨g, 0, none⟩) n n) (I' := fun g => Pm w0 (.row (.slice (some ⟨g, 0, none⟩) n n) e 1 n cs :: L)) hg hd hN (fun a w ha hw => by
    refine ⟨w.heap.size, w.alloc (.cells cs.toArray e), ?_, hw.add ((Below.refl _ _).alloc (Nat.le_refl _) _) ⟨hc, .inr ⟨w.heap.size, n, cs.toArray, rfl, Nat.le_refl _, heap_alloc_new w _, Nat.le_refl _, hn, by simpa using hc, ?_⟩⟩⟩
    · unfold execOp; rw [ho]
      have : xs.toArray.map (fun x => (x.1, a.eval x.2)) = vs.toArray := by rw [List.map_toArray, ha.evalps hx]
      simp only [this, Sem.run_bind, hr, Result.andThen_ok, Sem.run_pure]
    · simp [← hc]) h
/-- append to row number k -/
theorem TL.append {d k : Nat} {s x : Operand} {t e : TypeId} {size bytes n c m cc : Nat} {A0 A : Option Addr} {olds news : List Value} (hg : o.guard = none) (hd : o.dst = some d) (hN : Nat.blt d N.n = true)
    (ho : o.op = .call { callee := .builtin .append, args := #[s, x], argTypes := #[t, t] }) (hE : Elem P t e size bytes) (hs : ev E s = some (.slice A0 n c)) (hx : ev E x = some (.slice A m cc))
    (hk : L[k]? = some (.row (.slice A0 n c) e size n olds)) (hr : ∀ w, Pm w0 L w → ∃ B, Reads w B size A m news) (h1 : ∀ u ∈ news, u.oneCell' = true) (hlim : (n + m) * bytes ≤ 140737488355328) (M : Nat) (hM : M = n + m)
    (h : ∀ A' c', M ≤ c' → c' ≤ maxLen → TL P N ops Q l ((d, .slice A' M c') :: E) (Pm w0 (L.set k (.row (.slice A' M c') e size M (olds ++ news))))) : TL P N ops Q (o :: l) E (Pm w0 L) := by
  subst hM
  refine TL.run (α := { p : Option Addr × Nat // n + m ≤ p.2 ∧ p.2 ≤ maxLen }) (r := fun p => .slice p.1.1 (n + m) p.1.2) (I' := fun p => Pm w0 (L.set k (.row (.slice p.1.1 (n + m) p.1.2) e size (n + m) (olds ++ news)))) hg hd hN (fun a w ha hw => ?_) (fun p => h p.1.1 p.1.2 p.2.1 p.2.2)
  obtain ⟨i, z, hi, hz, hsz, hby, hzs⟩ := hE.info
  obtain ⟨B, hrd⟩ := hr w hw
  have hmx : n + m ≤ maxLen := by
    have : n + m ≤ (n + m) * bytes := Nat.le_mul_of_pos_right _ hE.big
    unfold maxLen; omega
  obtain ⟨v', w', hrun, hown', hgr, hkey⟩ := run_append_any (P := P) w w0.b t o.type e i z size bytes hE.und hi hz hsz hby hzs hE.pos _ n olds (hw.at_ hk) B A m cc news hrd h1 hmx hlim hw.base
  obtain ⟨A', c', rfl, hc1, hc2⟩ := own_shape hown'
  refine ⟨⟨(A', c'), hc1, hc2⟩, w', ?_, hw.turn hk hgr hown' (fun g hg => ?_) (fun k o e => ?_)⟩
  · unfold execOp; rw [ho]
    simp only [resolve, invoke, builtin, Sem.run_bind, Sem.run_pure, Result.andThen_ok, List.map_toArray, List.map_cons, List.map_nil, ha.eval hs, ha.eval hx, hrun]
  · rcases hkey with hkey | hkey
    · exact .inl (hkey.symm.trans hg)
    · right
      have : (Value.slice A' (n + m) c').ownBlock = some g := hg
      rw [hkey] at this
      injection this with this
      omega
  · cases e
/-- a store of whatever size into block number k of the list -/
theorem TL.pstore {t te : TypeId} {x y : Operand} {g off k : Nat} {v : Value} {cs vs : List Value} (hg : o.guard = none) (hd : o.dst = none) (ho : o.op = .store t x y) (hx : ev E x = some (.pointer (some ⟨g, off, none⟩))) (hy : ev E y = some v)
    (hk : L[k]? = some (.blk g te cs)) (hv : v.cells = vs.toArray) (hs : ∀ w : World, (sizeOf t).run P w = .ok vs.length w) (h1 : ∀ u ∈ vs, u.oneCell' = true) (hl : off + vs.length ≤ cs.length) {L' : List Pc} (hL : L.set k (.blk g te (cs.take off ++ vs ++ cs.drop (off + vs.length))) = L')
    (h : TL P N ops Q l E (Pm w0 L')) : TL P N ops Q (o :: l) E (Pm w0 L) := fun a w ha hw =>
  wpList_plain hg fun K hK => by
    have hrun : (execOp a.eval o).run P w = .ok .skip (w.setRow g (cs.take off ++ vs ++ cs.drop (off + vs.length)).toArray) := by
      unfold execOp; rw [ho]
      simp only [ha.eval hx, ha.eval hy]
      have hst := run_storeCells_at (P := P) g off te vs 0 cs.toArray w (hw.at_ hk).1 (by simpa using hl) h1
      simp only [Nat.add_zero] at hst
      have hsv : (storeVar t ⟨g, off, none⟩ v).run P w = .ok () (w.setRow g (cs.take off ++ vs ++ cs.drop (off + vs.length)).toArray) := by
        unfold storeVar
        simp only [Sem.run_bind, hs, Result.andThen_ok, hv]
        simpa [Result.andThen] using hst
      simp only [Instr.storeAt, Instr.sureAddr, Sem.run_bind, Sem.run_pure, Result.andThen_ok, hsv]
    unfold Oper.wp
    rw [hrun]
    show K (a.put o.dst undef) _
    rw [hd]
    exact hK _ _ (h _ _ (ha.put0 _) (hL ▸ hw.setRow hk _))
theorem pm_load {t te : TypeId} {x : Operand} {g i k : Nat} {v : Value} {cs : List Value} (ho : o.op = .load t x) (hx : ev E x = some (.pointer (some ⟨g, i, none⟩))) (hag : ∀ w : World, (isAgg t).run P w = .ok false w)
    (hk : L[k]? = some (.blk g te cs)) (hi : cs[i]? = some v) : Gives P N o E (Pm w0 L) v := gives_load ho hx hag fun w hw => (hw.cell hk i).trans hi
theorem pm_loadAgg {t te : TypeId} {x : Operand} {g i k n : Nat} {cs : List Value} (ho : o.op = .load t x) (hx : ev E x = some (.pointer (some ⟨g, i, none⟩))) (hag : ∀ w : World, (isAgg t).run P w = .ok true w) (hs : ∀ w : World, (sizeOf t).run P w = .ok n w)
    (hk : L[k]? = some (.blk g te cs)) (hi : i + n ≤ cs.length) : Gives P N o E (Pm w0 L) (.agg ((cs.drop i).take n).toArray) := fun a w ha hw => by
  unfold execOp; rw [ho]
  simp only [ha.eval hx]
  have hlen : ((cs.drop i).take n).length = n := by simp; omega
  have hl := run_loadCells_list (P := P) w ⟨g, i, none⟩ ((cs.drop i).take n) (fun j v hj => by
    have hadd : (⟨g, i, none⟩ : Addr).add j = ⟨g, i + j, none⟩ := by unfold Addr.add; split <;> simp_all
    rw [hadd, hw.cell hk (i + j)]
    simp only [List.getElem?_take, List.getElem?_drop] at hj
    split at hj
    · exact hj
    · cases hj)
  rw [hlen] at hl
  simp only [Instr.loadAt, Instr.sureAddr, Sem.run_bind, Sem.run_pure, Result.andThen_ok, loadVar, hag, hs, hl, if_true]
theorem pm_ret_cell {fn : Func} {p : Tmp} {t te : TypeId} {g k : Nat} {cs : List Value} {d : TypeDesc} {R : Ending → World → Prop} (hr : fn.results = #[.cell p t]) (hp : look E p = some (.pointer (some ⟨g, 0, none⟩))) (hk : L[k]? = some (.blk g te cs))
    (hu : P.underlying t = some d) (hd : (match d with | .struct _ | .array _ _ => true | _ => false) = true) (hi : (P.info? t).map (·.size) = some cs.length) (hR : ∀ w, Pm w0 L w → R (.returned (.agg cs.toArray)) w) (hD : N.ds = [] := by rfl) :
    ∀ a w, EnvOk N E a → Pm w0 L w → bodyPost P fn R .ret a w := fun a w ha hw =>
  ⟨ha.defers.trans hD, .agg cs.toArray, results_cell_row hr a.tmps w g te cs.toArray (0, 0) d (by have := ha.slot p _ hp; simp [this]) (hw.at_ hk).1 hu hd (by simpa using hi), hR w hw⟩
theorem pm_oldAgg {t te : TypeId} {x : Operand} {g : Nat} {cs : Array Value} {d : TypeDesc} (ho : o.op = .load t x) (hx : ev E x = some (.pointer (some ⟨g, 0, none⟩))) (hb : Blk w0.w g te cs) (hlt : g < w0.b)
    (hu : P.underlying t = some d) (hd : (match d with | .struct _ | .array _ _ => true | _ => false) = true) (hi : (P.info? t).map (·.size) = some cs.size) : Gives P N o E (Pm w0 L) (.agg cs) := fun a w ha hw => by
  unfold execOp; rw [ho]
  simp only [ha.eval hx]
  have := run_loadVar_row (P := P) w g te t cs (0, 0) d (hb.below hw.bel hlt) hu hd hi
  simp only [Instr.loadAt, Instr.sureAddr, Sem.run_bind, Sem.run_pure, Result.andThen_ok, this]
theorem TL.pcall1 {d : Nat} {f : FuncId} {fn : Func} {xs : List Operand} {ts : Array TypeId} {vs : List Value} {r : Value} (hg : o.guard = none) (hd : o.dst = some d) (hN : Nat.blt d N.n = true)
    (ho : o.op = .call { callee := .value (.func f), args := xs.toArray, argTypes := ts }) (hx : evs E xs = some vs) (hf : P.funcs[f]? = some fn) (hn : (fn.name == "runtime.NumGoroutine") = false) (hb : fn.body.isNone = false)
    (hc : ∀ w, Pm w0 L w → Calls P f vs.toArray w fun e w' => e = .returned r ∧ Below w.heap.size w w') (h : TL P N ops Q l ((d, r) :: E) (Pm w0 L)) : TL P N ops Q (o :: l) E (Pm w0 L) :=
  TL.call (α := Unit) (r := fun _ => r) (I' := fun _ => Pm w0 L) hg hd hN ho hx hf hn hb (fun w hw => (hc w hw).mono fun e w' ⟨he, hb⟩ => ⟨(), he, hw.below hb⟩) (fun _ => h)
/-- a call that hands back a new row -/
theorem TL.pcallRow {d : Nat} {f : FuncId} {fn : Func} {xs : List Operand} {ts : Array TypeId} {vs : List Value} {e : TypeId} {size n : Nat} {ys : List Value} (hg : o.guard = none) (hd : o.dst = some d) (hN : Nat.blt d N.n = true)
    (ho : o.op = .call { callee := .value (.func f), args := xs.toArray, argTypes := ts }) (hx : evs E xs = some vs) (hf : P.funcs[f]? = some fn) (hn : (fn.name == "runtime.NumGoroutine") = false) (hb : fn.body.isNone = false)
    (hc : ∀ w, Pm w0 L w → Calls P f vs.toArray w fun en w' => ∃ A c, en = .returned (.slice A n c) ∧ n ≤ c ∧ c ≤ maxLen ∧ w'.ownsRow w.heap.size e size (.slice A n c) n ys ∧ Below w.heap.size w w')
    (h : ∀ A c, n ≤ c → c ≤ maxLen → TL P N ops Q l ((d, .slice A n c) :: E) (Pm w0 (.row (.slice A n c) e size n ys :: L))) : TL P N ops Q (o :: l) E (Pm w0 L) :=
  TL.call (α := { p : Option Addr × Nat // n ≤ p.2 ∧ p.2 ≤ maxLen }) (r := fun p => .slice p.1.1 n p.1.2) (I' := fun p => Pm w0 (.row (.slice p.1.1 n p.1.2) e size n ys :: L)) hg hd hN ho hx hf hn hb
    (fun w hw => (hc w hw).mono fun en w' ⟨A, c, he, h1, h2, h3, h4⟩ => ⟨⟨(A, c), h1, h2⟩, he, hw.add h4 h3⟩) (fun p => h p.1.1 p.1.2 p.2.1 p.2.2)
/-! ### Values -/
theorem gives_len {s : Operand} {t e : TypeId} {A : Option Addr} {n c : Nat} {I : World → Prop} (ho : o.op = .call { callee := .builtin .len, args := #[s], argTypes := #[t] }) (ht : P.underlying t = some (.slice e)) (hs : ev E s = some (.slice A n c)) : Gives P N o E I (.int .i64 (n : Int)) := fun a w ha _ => by
  unfold execOp; rw [ho]
  simp only [resolve, invoke, builtin, Sem.run_bind, Sem.run_pure, Result.andThen_ok, List.map_toArray, List.map_cons, List.map_nil, ha.eval hs]
  simp [go_sem, Builtin.len_, run_underlying ht]
theorem gives_lenS {s : Operand} {t : TypeId} {b : ByteArray} {I : World → Prop} (ho : o.op = .call { callee := .builtin .len, args := #[s], argTypes := #[t] }) (ht : P.underlying t = some .string) (hs : ev E s = some (.string b)) : Gives P N o E I (.int .i64 (b.size : Int)) := fun a w ha _ => by
  unfold execOp; rw [ho]
  simp only [resolve, invoke, builtin, Sem.run_bind, Sem.run_pure, Result.andThen_ok, List.map_toArray, List.map_cons, List.map_nil, ha.eval hs]
  simp [go_sem, Builtin.len_, run_underlying ht]
theorem gives_conv {t u : TypeId} {x : Operand} {vx v : Value} {I : World → Prop} (ho : o.op = .convert t u x) (hx : ev E x = some vx) (hv : ∀ w : World, (convert t u vx).run P w = .ok v w) : Gives P N o E I v := fun a w ha _ => by
  unfold execOp; rw [ho]
  simp only [ha.eval hx, Sem.run_bind, hv, Result.andThen_ok, Sem.run_pure]
end
end Go.Proofs.Ytmbcclgnjobikaa
