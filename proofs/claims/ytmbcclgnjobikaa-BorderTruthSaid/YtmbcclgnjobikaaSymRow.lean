/-
  A walk by rules: rows that are made, written, read and cut; ways that join. No program is imported.
-/
import Derived.Test.YtmbcclgnjobikaaSymStr
import Derived.Laws.OwnMore
namespace Go.Proofs.Ytmbcclgnjobikaa
open Go.RowKit
set_option linter.unusedVariables false
set_option linter.unusedSimpArgs false
theorem take_put {α : Type} (xs vs : List α) (off m : Nat) (h : off + vs.length ≤ m) (hm : m ≤ xs.length) : (xs.take off ++ vs ++ xs.drop (off + vs.length)).take m = (xs.take m).take off ++ vs ++ (xs.take m).drop (off + vs.length) := by
  refine List.ext_getElem? fun i => ?_
  have hl1 : (xs.take off).length = off := by simp; omega
  have hl2 : ((xs.take m).take off).length = off := by simp; omega
  simp only [List.getElem?_take, List.append_assoc, List.getElem?_append, hl1, hl2, List.getElem?_drop]
  split <;> split <;> (try split) <;> (try split) <;> first | rfl | omega | (simp only [List.getElem?_take]; split <;> first | rfl | omega) | (simp; omega)
section
variable {P : Program} {N : Fr} {Q : Exit → Act → World → Prop} {E : Env} {w0 : Base} {L : List Pc} {ops : Array Oper} {l : List Oper} {o : Oper}
theorem row_put {w : World} {B g n c size off : Nat} {e : TypeId} {xs vs : List Value} (h : w.ownsRow B e size (.slice (some ⟨g, 0, none⟩) n c) n xs) (hl : off + vs.length ≤ xs.length) :
    (∃ cur : Array Value, w.heap[g]? = some (.cells cur e (0, 0)) ∧ off + vs.length ≤ cur.size ∧ (w.setRow g (cur.toList.take off ++ vs ++ cur.toList.drop (off + vs.length)).toArray).ownsRow B e size (.slice (some ⟨g, 0, none⟩) n c) n (xs.take off ++ vs ++ xs.drop (off + vs.length))) := by
  obtain ⟨h1, h2⟩ := h
  rcases h2 with ⟨e1, h2⟩ | ⟨g', cap, cur, a, hb, hg, hn, hm, hs, ht⟩
  · cases e1
  · cases a
    have hle : n * size ≤ cur.size := by rw [hs]; exact Nat.mul_le_mul_right _ hn
    have hfit : off + vs.length ≤ n * size := by rw [h1] at hl; exact hl
    refine ⟨cur, hg, by omega, ⟨?_, .inr ⟨g, c, _, rfl, hb, setRow_heap w g cur _ e _ hg, hn, hm, ?_, ?_⟩⟩⟩
    · rw [← h1]; simp; omega
    · rw [← hs]; simp; omega
    · rw [← ht]
      exact take_put _ _ _ _ hfit (by simpa using hle)
/-- a store into row number k -/
theorem TL.rowset {t e : TypeId} {x y : Operand} {g off k n c size : Nat} {v : Value} {xs vs : List Value} (hg : o.guard = none) (hd : o.dst = none) (ho : o.op = .store t x y) (hx : ev E x = some (.pointer (some ⟨g, off, none⟩))) (hy : ev E y = some v)
    (hk : L[k]? = some (.row (.slice (some ⟨g, 0, none⟩) n c) e size n xs)) (hv : v.cells = vs.toArray) (hs : ∀ w : World, (sizeOf t).run P w = .ok vs.length w) (h1 : ∀ u ∈ vs, u.oneCell' = true) (hl : off + vs.length ≤ xs.length) {xs' : List Value} (hL : xs.take off ++ vs ++ xs.drop (off + vs.length) = xs')
    (h : TL P N ops Q l E (Pm w0 (L.set k (.row (.slice (some ⟨g, 0, none⟩) n c) e size n xs')))) : TL P N ops Q (o :: l) E (Pm w0 L) := fun a w ha hw =>
  wpList_plain hg fun K hK => by
    subst hL
    obtain ⟨cur, hcur, hfit, hown⟩ := row_put (hw.at_ hk) hl
    have hrun : (execOp a.eval o).run P w = .ok .skip (w.setRow g (cur.toList.take off ++ vs ++ cur.toList.drop (off + vs.length)).toArray) := by
      unfold execOp; rw [ho]
      simp only [ha.eval hx, ha.eval hy]
      have hst := run_storeCells_at (P := P) g off e vs 0 cur w hcur (by simpa using hfit) h1
      simp only [Nat.add_zero] at hst
      have hsv : (storeVar t ⟨g, off, none⟩ v).run P w = .ok () (w.setRow g (cur.toList.take off ++ vs ++ cur.toList.drop (off + vs.length)).toArray) := by
        unfold storeVar
        simp only [Sem.run_bind, hs, Result.andThen_ok, hv]
        simpa [Result.andThen] using hst
      simp only [Instr.storeAt, Instr.sureAddr, Sem.run_bind, Sem.run_pure, Result.andThen_ok, hsv]
    unfold Oper.wp
    rw [hrun]
    show K (a.put o.dst undef) _
    rw [hd]
    exact hK _ _ (h _ _ (ha.put0 _) (hw.turn hk (grown_setRow _ _) hown (fun g' hg' => .inl hg') (fun k o e => by cases e)))
/-- a cell of row number k -/
theorem pm_row {w : World} {k g n c i : Nat} {e : TypeId} {size : Nat} {xs : List Value} {v : Value} (h : Pm w0 L w) (hk : L[k]? = some (.row (.slice (some ⟨g, 0, none⟩) n c) e size n xs)) (hi : xs[i]? = some v) : w.cell? ⟨g, i, none⟩ = some v := by
  have := (h.at_ hk).cells (g := g) rfl i v hi
  rw [← this]
  congr 1
  unfold Addr.add; split <;> simp_all
theorem pm_loadRow {t e : TypeId} {x : Operand} {g i k n c size : Nat} {v : Value} {xs : List Value} (ho : o.op = .load t x) (hx : ev E x = some (.pointer (some ⟨g, i, none⟩))) (hag : ∀ w : World, (isAgg t).run P w = .ok false w)
    (hk : L[k]? = some (.row (.slice (some ⟨g, 0, none⟩) n c) e size n xs)) (hi : xs[i]? = some v) : Gives P N o E (Pm w0 L) v := gives_load ho hx hag fun w hw => pm_row hw hk hi
/-- a row that is made -/
theorem TL.mkrow {d m : Nat} {t e : TypeId} {size bytes : Nat} {x y : Operand} {k1 k2 : IntKind} {z : Value} {zs : List Value} (hg : o.guard = none) (hd : o.dst = some d) (hN : Nat.blt d N.n = true)
    (ho : o.op = .makeSlice t x y) (hx : ev E x = some (.int k1 (m : Int))) (hy : ev E y = some (.int k2 (m : Int))) (hE : Elem P t e size bytes) (hzv : (P.info? e).map (·.zero) = some (some z)) (hzs : (Go.madeCells z.cells (m * size)).toList = zs) (hlim : m * bytes ≤ 140737488355328)
    (h : ∀ g, TL P N ops Q l ((d, .slice (some ⟨g, 0, none⟩) m m) :: E) (Pm w0 (.row (.slice (some ⟨g, 0, none⟩) m m) e size m zs :: L))) : TL P N ops Q (o :: l) E (Pm w0 L) := by
  subst hzs
  refine TL.run (α := Nat) (r := fun g => .slice (some ⟨g, 0, none⟩) m m) (I' := fun g => Pm w0 (.row (.slice (some ⟨g, 0, none⟩) m m) e size m (madeCells z.cells (m * size)).toList :: L)) hg hd hN (fun a w ha hw => ?_) h
  obtain ⟨i, z', hi, hz, hsz, hby, hzs⟩ := hE.info
  have hzz : z' = z := by
    rw [hi] at hzv
    simp only [Option.map_some, Option.some.injEq] at hzv
    rw [hz] at hzv
    injection hzv
  subst hzz
  have hmx : m ≤ maxLen := by
    have : m ≤ m * bytes := Nat.le_mul_of_pos_right _ hE.big
    unfold maxLen; omega
  obtain ⟨w', hrun, hown, hgr⟩ := run_make_full (P := P) w w.heap.size t e i z' size hE.und hi hz hsz k1 k2 m (by rw [hby, Nat.mul_comm]; omega) hmx (Nat.le_refl _)
  refine ⟨w.heap.size, w', ?_, hw.add ((Below.refl _ _).grown hgr (Nat.le_refl _) (fun k e => by cases e)) hown⟩
  unfold execOp; rw [ho]
  simp only [ha.eval hx, ha.eval hy, Sem.run_bind, hrun, Result.andThen_ok, Sem.run_pure]
theorem made_one (v : Value) (hv : v.cells = #[v]) (m : Nat) : (Go.madeCells v.cells (m * 1)).toList = List.replicate m v := by
  rw [hv]
  refine List.ext_getElem (by simp [madeCells]) fun i h1 h2 => ?_
  simp [madeCells, Nat.mod_one]
/-- the head of row number k -/
theorem TL.rowhead {d k n c hi size : Nat} {t e : TypeId} {x y : Operand} {k2 : IntKind} {A : Option Addr} {xs xs' : List Value} (hg : o.guard = none) (hd : o.dst = some d) (hN : Nat.blt d N.n = true)
    (ho : o.op = .slice t x none (some y) none) (hx : ev E x = some (.slice A n c)) (hy : ev E y = some (.int k2 (hi : Int))) (ht : P.underlying t = some (.slice (P.elem t))) (hs : ∀ w : World, (sizeOf (P.elem t)).run P w = .ok size w)
    (hk : L[k]? = some (.row (.slice A n c) e size n xs)) (hh : hi ≤ n) (hc : n ≤ c) (hxs : xs.take (hi * size) = xs')
    (h : TL P N ops Q l ((d, .slice A hi c) :: E) (Pm w0 (L.set k (.row (.slice A hi c) e size hi xs')))) : TL P N ops Q (o :: l) E (Pm w0 L) := by
  subst hxs
  refine TL.run (α := Unit) (r := fun _ => .slice A hi c) (I' := fun _ => Pm w0 (L.set k (.row (.slice A hi c) e size hi (xs.take (hi * size))))) hg hd hN (fun a w ha hw => ⟨(), w, ?_, ?_⟩) (fun _ => h)
  · have hrow := hw.at_ hk
    unfold execOp; rw [ho]
    simp only [Option.map_some, Option.map_none, ha.eval hx, ha.eval hy, run_sliceAt_slice w t _ _ _ _ ht, run_slice_h w t A n c ht k2 (hi : Int) (by omega) (by omega), hs, Result.andThen_ok, Sem.run_bind, Sem.run_pure, sliced, Int.toNat_natCast, Nat.zero_mul, Nat.sub_zero]
    rcases hrow.2 with ⟨e1, h2⟩ | ⟨g, cap, cur, a1, r⟩
    · cases e1
      have : hi = 0 := by omega
      subst this
      simp
    · cases a1
      by_cases hc0 : c = 0
      · simp [hc0]
      · rw [if_neg hc0]
        have : (⟨g, 0, none⟩ : Addr).add 0 = ⟨g, 0, none⟩ := by unfold Addr.add; split <;> simp_all
        rw [Option.map_some, this]
  · have hrow := hw.at_ hk
    refine hw.turn hk (World.grownBy.refl w _) ?_ (fun g hg => .inl (by cases A <;> exact hg)) (fun _ _ e => by cases e)
    obtain ⟨h1, h2⟩ := hrow
    refine ⟨?_, ?_⟩
    · rw [List.length_take, h1]
      exact Nat.min_eq_left (Nat.mul_le_mul_right _ hh)
    · rcases h2 with ⟨e1, h2⟩ | ⟨g, cap, cur, a1, hb, hgg, hn, hm, hs1, ht1⟩
      · cases e1
        have : hi = 0 := by omega
        subst this
        exact .inl ⟨rfl, rfl⟩
      · cases a1
        refine .inr ⟨g, c, cur, rfl, hb, hgg, by omega, hm, hs1, ?_⟩
        rw [← ht1, List.take_take, Nat.min_eq_left (Nat.mul_le_mul_right _ hh)]
theorem gives_cap {s : Operand} {t e : TypeId} {A : Option Addr} {n c : Nat} {I : World → Prop} (ho : o.op = .call { callee := .builtin .cap, args := #[s], argTypes := #[t] }) (ht : P.underlying t = some (.slice e)) (hs : ev E s = some (.slice A n c)) : Gives P N o E I (.int .i64 (c : Int)) := fun a w ha _ => by
  unfold execOp; rw [ho]
  simp only [resolve, invoke, builtin, Sem.run_bind, Sem.run_pure, Result.andThen_ok, List.map_toArray, List.map_cons, List.map_nil, ha.eval hs]
  simp [go_sem, Builtin.cap_, run_underlying ht]
/-- the whole of an array -/
theorem gives_whole {t : TypeId} {x : Operand} {g n : Nat} {I : World → Prop} (ho : o.op = .slice t x none none none) (hx : ev E x = some (.pointer (some ⟨g, 0, none⟩))) (ht : P.underlying t = some (.array (P.arrayLen t) (P.elem t))) (hn : P.arrayLen t = n) (hs : ∀ w : World, (sizeOf (P.elem t)).run P w = .ok 1 w) : Gives P N o E I (.slice (some ⟨g, 0, none⟩) n n) := fun a w ha _ => by
  subst hn
  unfold execOp; rw [ho]
  simp only [Option.map_none, ha.eval hx, run_sliceAt_array_all w t _ ht, hs, Result.andThen_ok, Sem.run_bind, Sem.run_pure, slicedAt, Nat.zero_mul, Nat.sub_zero]
  congr 2
  simp only [Value.slice.injEq, Option.some.injEq, and_true]
  split
  · rfl
  · unfold Addr.add; split <;> simp_all
/-! ### Ways that join -/
theorem TC.join {α : Type} {x y : Code} {I : World → Prop} (E' : α → Env) (I' : α → World → Prop) (h : TC P N (Exit.then (fun a w => ∃ s, EnvOk N (E' s) a ∧ I' s w) Q) x E I) (hy : ∀ s, TC P N Q y (E' s) (I' s)) : TC P N Q (.seq x y) E I :=
  TC.seq h fun a w ⟨s, h1, h2⟩ => hy s a w h1 h2
theorem TX.joined {α : Type} {I : World → Prop} {E' : α → Env} {I' : α → World → Prop} (s : α) (hE : Has E (E' s)) (hI : ∀ w, I w → I' s w) : TX N (Exit.then (fun a w => ∃ s, EnvOk N (E' s) a ∧ I' s w) Q) .normal E I := fun a w ha hw => ⟨s, ha.of_list hE, hI w hw⟩
theorem TX.nilrow {ex : Exit} (e : TypeId) (size : Nat) (h : TX N Q ex E (Pm w0 (.row (.slice none 0 0) e size 0 [] :: L))) : TX N Q ex E (Pm w0 L) := fun a w ha hw => h a w ha (hw.nilrow e size)
theorem Pm.swap {w : World} {p q : Pc} (h : Pm w0 (p :: q :: L) w) : Pm w0 (q :: p :: L) w := by
  refine ⟨h.bel, fun r hr => h.own r ?_, ?_, h.oth, h.low⟩
  · simp only [List.mem_cons] at hr ⊢
    rcases hr with h | h | h
    · exact .inr (.inl h)
    · exact .inl h
    · exact .inr (.inr h)
  · have h1 := List.pairwise_cons.1 h.apart
    have h2 := List.pairwise_cons.1 h1.2
    refine List.Pairwise.cons (fun r hr => ?_) (List.Pairwise.cons (fun r hr => h1.1 r (List.mem_cons_of_mem _ hr)) h2.2)
    rcases List.mem_cons.1 hr with rfl | hr
    · exact fun g hg hgr => h1.1 q List.mem_cons_self g hgr hg
    · exact h2.1 r hr
theorem byt_cell_eq {w : World} {B b o n i : Nat} {y : Int} {l : List Int} (h : Byt w B (some ⟨b, o, none⟩) n l) (hi : i < n) (hy : l[i]? = some y) : w.cell? ⟨b, o + i, none⟩ = some (.int .u8 y) := by
  obtain ⟨ad, x, hA, _, hl, _, _, hc⟩ := h.at_ hi
  cases hA
  rw [hl] at hy
  cases hy
  rw [← hc]
  congr 1
  unfold Addr.add; split <;> simp_all
theorem byt_blk {w : World} {g n : Nat} {t : TypeId} {xs : List Int} (h : Blk w g t (bv xs).toArray) (hx : Bs xs) (hn : xs.length = n) : Byt w w.heap.size (some ⟨g, 0, none⟩) n xs := by
  subst hn
  refine ⟨⟨by simp [bv], fun _ => ⟨_, rfl, h.lt, fun j u hu => ?_⟩⟩, hx⟩
  have : (⟨g, 0, none⟩ : Addr).add j = ⟨g, j, none⟩ := by unfold Addr.add; split <;> simp_all
  rw [this, h.cell j]
  simpa using hu
theorem byt_oth {w : World} {g n : Nat} {t : TypeId} {f : Nat × Nat} {xs : List Int} (h : w.heap[g]? = some (.cells (bv xs).toArray t f)) (hx : Bs xs) (hn : xs.length = n) : Byt w w.heap.size (some ⟨g, 0, none⟩) n xs := by
  subst hn
  refine ⟨⟨by simp [bv], fun _ => ⟨_, rfl, (Array.getElem?_eq_some_iff.1 h).1, fun j u hu => ?_⟩⟩, hx⟩
  have : (⟨g, 0, none⟩ : Addr).add j = ⟨g, j, none⟩ := by unfold Addr.add; split <;> simp_all
  rw [this, cell_of_row w g j _ t f h]
  simpa using hu
theorem grown_freeze (w : World) (g m : Nat) : w.grownBy (w.freeze ⟨g, m, none⟩ 1) (some g) := by
  unfold World.freeze
  rw [if_neg (by decide)]
  refine ⟨rfl, rfl, rfl, by simp, fun k hk hne => ?_⟩
  have : g ≠ k := fun e => hne (by rw [e])
  simp [Array.getElem?_modify, this]
/-- bytes spelled out for a string: the block bears the string's mark -/
theorem TL.mark {d k g n : Nat} {t e e1 : TypeId} {x : Operand} {xs : List Value} (hg : o.guard = none) (hd : o.dst = some d) (hN : Nat.blt d N.n = true)
    (ho : o.op = .convert t t x) (hx : ev E x = some (.slice (some ⟨g, 0, none⟩) n n)) (ht : P.underlying t = some (.slice e1)) (he : P.underlying e1 = some (.int .u8))
    (hk : L[k]? = some (.row (.slice (some ⟨g, 0, none⟩) n n) e 1 n xs))
    (h : TL P N ops Q l ((d, .slice (some ⟨g, 0, none⟩) n n) :: E) (Pm w0 (L.set k (.oth g (.cells xs.toArray e (n, n + 1)))))) : TL P N ops Q (o :: l) E (Pm w0 L) := by
  refine TL.run (α := Unit) (r := fun _ => .slice (some ⟨g, 0, none⟩) n n) (I' := fun _ => Pm w0 (L.set k (.oth g (.cells xs.toArray e (n, n + 1))))) hg hd hN (fun a w ha hw => ?_) (fun _ => h)
  obtain ⟨h1, h2⟩ := hw.at_ hk
  rcases h2 with ⟨e1, _⟩ | ⟨g', cap, cur, a1, hb, hgg, hn, hm, hs1, ht1⟩
  · cases e1
  · cases a1
    have hcur : cur = xs.toArray := by
      rw [← Array.toList_inj, ← ht1, List.take_of_length_le (by simp; omega)]
    have hsz : cur.size = n := by omega
    rw [← hcur]
    have hsh : w.shape? g = some (e, n) := by
      unfold World.shape?; rw [hgg]
      show some (e, cur.size) = some (e, n)
      rw [hsz]
    have hlt := (Array.getElem?_eq_some_iff.1 hgg).1
    refine ⟨(), w.freeze ⟨g, n, none⟩ 1, ?_, hw.turn hk (grown_freeze w g n) ⟨?_, hb⟩ (fun g' hg' => .inl hg') (fun _ _ e => by cases e)⟩
    · unfold execOp; rw [ho]
      simp only [ha.eval hx, Sem.run_bind, Sem.run_pure]
      have hc : (convert t t (.slice (some ⟨g, 0, none⟩) n n)).run P w = .ok (.slice (some ⟨g, 0, none⟩) n n) (w.freeze ⟨g, n, none⟩ 1) := by
        simp [convert, run_underlying ht, run_underlying he, markStringish, hsh]
      rw [hc]; rfl
    · unfold World.freeze
      rw [if_neg (by decide)]
      simp [Array.getElem?_modify, hgg]
end
end Go.Proofs.Ytmbcclgnjobikaa
