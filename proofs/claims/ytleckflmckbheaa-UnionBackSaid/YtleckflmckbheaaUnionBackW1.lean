/-
  A walk by rules: append of a make that has no room, copy into a row, a row drawn out within its capacity. No program is imported.
-/
import Derived.Test.YtleckflmckbheaaPu5
import Derived.Test.YtleckflmckbheaaPu4
import Derived.Test.YtleckflmckbheaaPu1
import Derived.Lib.Overlaps
namespace Go.Proofs.Ytleckflmckbheaa
open Go.RowKit
set_option linter.unusedVariables false
set_option linter.unusedSimpArgs false
section
variable {P : Program}
theorem run_copy_at (w : World) (dT sT ty elem : TypeId) (g off dLen dCap : Nat) (a : Addr) (sLen sCap size : Nat) (cur : Array Value) (t : TypeId) (cs : List Value) (hu : P.underlying dT = some (.slice elem)) (hs : ∀ w : World, (sizeOf elem).run P w = .ok size w)
  (hg : w.heap[g]? = some (.cells cur t (0, 0))) (hn : cs.length = Nat.min sLen dLen * size) (hsrc : ∀ j v, cs[j]? = some v → w.cell? (a.add j) = some v) (hfit : off + cs.length ≤ cur.size) (h1 : ∀ v ∈ cs, v.oneCell' = true) :
  (Builtin.copy_ #[dT, sT] ty #[.slice (some ⟨g, off, none⟩) dLen dCap, .slice (some a) sLen sCap]).run P w =
   .ok (goInt (Nat.min sLen dLen)) (w.setRow g (cur.toList.take off ++ cs ++ cur.toList.drop (off + cs.length)).toArray) := by
 have hfo := run_firstCells_some (P := P) w size (Nat.min sLen dLen) a sLen sCap cs hn hsrc
 have hst := run_storeCells_at P g off t cs 0 cur w hg (by simpa using hfit) h1
 simp only [Nat.add_zero] at hst
 have hmin : Nat.min sLen dLen = min sLen dLen := rfl
 rw [hmin] at hfo ⊢
 simp [Builtin.copy_, run_underlying hu, Builtin.lenOf, hs, hfo, hst]
variable {N : Fr} {Q : Exit → Act → World → Prop} {E : Env} {w0 : Base} {L : List Pc} {ops : Array Oper} {l : List Oper} {o : Oper}
/-- append of a make to the beginning of row number k, where there is no room: a new row -/
theorem TL.zerosGrow {d k i m n c g : Nat} {s x : Operand} {t u e : TypeId} {size bytes : Nat} {xs zs : List Value} {z : Value} (hg : o.guard = none) (hd : o.dst = some d) (hN : Nat.blt d N.n = true)
  (ho : o.op = .call { callee := .builtin .append, args := #[s, x], argTypes := #[t, u] }) (hE : Elem P t e size bytes) (hu : P.underlying u = some (.int .i64)) (hs : ev E s = some (.slice (some ⟨g, 0, none⟩) i c)) (hx : ev E x = some (.int .i64 (m : Int)))
  (hk : L[k]? = some (.row (.slice (some ⟨g, 0, none⟩) n c) e size n xs)) (hin : i ≤ n) (hm : 0 < m) (hgrow : c < i + m) (hzv : (P.info? e).map (·.zero) = some (some z)) (hzs : (Builtin.zeroCells z.cells m).toList = zs) (hlim : (i + m) * bytes ≤ 140737488355328) {M : Nat} (hM : M = i + m)
  {ys : List Value} (hys : xs.take (i * size) = ys)
  (h : ∀ g' c', M ≤ c' → c' ≤ maxLen → TL P N ops Q l ((d, .slice (some ⟨g', 0, none⟩) M c') :: E) (Pm w0 (.row (.slice (some ⟨g', 0, none⟩) M c') e size M (ys ++ zs) :: L))) : TL P N ops Q (o :: l) E (Pm w0 L) := by
 subst hM hzs hys
 refine TL.run (α := { p : Nat × Nat // i + m ≤ p.2 ∧ p.2 ≤ maxLen }) (r := fun p => .slice (some ⟨p.1.1, 0, none⟩) (i + m) p.1.2) (I' := fun p => Pm w0 (.row (.slice (some ⟨p.1.1, 0, none⟩) (i + m) p.1.2) e size (i + m) (xs.take (i * size) ++ (Builtin.zeroCells z.cells m).toList) :: L)) hg hd hN (fun a w ha hw => ?_) (fun p => h p.1.1 p.1.2 p.2.1 p.2.2)
 obtain ⟨ti, z', hi, hz, hsz, hby, hzs⟩ := hE.info
 have hzz : z' = z := by
  rw [hi] at hzv
  simp only [Option.map_some, Option.some.injEq] at hzv
  rw [hz] at hzv
  injection hzv
 subst hzz
 have hmx : i + m ≤ maxLen := by
  have : i + m ≤ (i + m) * bytes := Nat.le_mul_of_pos_right _ hE.big
  unfold maxLen; omega
 have hrow := hw.at_ hk
 have hlen : xs.length = n * size := hrow.1
 have hpos : 0 < ti.size := by rw [hsz]; exact hE.pos
 have hlo : (xs.take (i * size)).length = i * ti.size := by
  rw [List.length_take, hlen, hsz]
  exact Nat.min_eq_left (Nat.mul_le_mul_right _ hin)
 have hr := run_zeros_grow (P := P) w t u o.type e ti hE.und hu hi z' hz hpos ⟨g, 0, none⟩ i c (xs.take (i * size)) hlo (fun j v hj => by
  have hj2 : xs[j]? = some v := by
   rw [List.getElem?_take] at hj
   split at hj
   ·exact hj
   ·cases hj
  have := pm_row hw hk hj2
  rw [← this]
  congr 1
  unfold Addr.add; split <;> simp_all) m hm hmx (by rw [hby]; exact hlim) hgrow
 have hge := grownCap_ge w (i + m) c e
 have hcm : grownCap w (i + m) c e ≤ maxLen := grownCap_le_maxLen w (i + m) c e hmx
 have hl : (Builtin.zeroCells z'.cells m).toList.length = m * size := by simp [size_zeroCells, hzs, hsz]
 have hl2 : (xs.take (i * size) ++ (Builtin.zeroCells z'.cells m).toList).length = (i + m) * size := by rw [List.length_append, hlo, hl, hsz, Nat.add_mul]
 obtain ⟨W, hW⟩ : ∃ W, W = w.drew.alloc (.cells ((xs.take (i * size)).toArray ++ Builtin.zeroCells z'.cells m ++ Builtin.zeroCells z'.cells (grownCap w (i + m) c e - (i + m))) e) := ⟨_, rfl⟩
 have hgr : w.grownBy W none := by
  subst hW
  exact ⟨rfl, rfl, rfl, by simp, fun k hk _ => Below.heap_alloc w.drew _ k hk⟩
 have hown : W.ownsRow w.heap.size e size (.slice (some ⟨w.heap.size, 0, none⟩) (i + m) (grownCap w (i + m) c e)) (i + m) (xs.take (i * size) ++ (Builtin.zeroCells z'.cells m).toList) := by
  refine ⟨hl2, .inr ⟨w.heap.size, _, ((xs.take (i * size)).toArray ++ Builtin.zeroCells z'.cells m ++ Builtin.zeroCells z'.cells (grownCap w (i + m) c e - (i + m))), rfl, Nat.le_refl _, ?_, hge, hcm, ?_, ?_⟩⟩
  ·rw [hW]; exact heap_alloc_new w.drew _
  ·rw [hsz] at hlo
   simp only [Array.size_append, List.size_toArray, size_zeroCells, hzs, hlo, ← Nat.add_mul]
   congr 1
   omega
  ·simp only [Array.toList_append, List.append_assoc]
   rw [← List.append_assoc, ← hl2]
   exact List.take_left
 refine ⟨⟨(w.heap.size, grownCap w (i + m) c e), hge, hcm⟩, W, ?_, hw.add ((Below.refl _ _).grown hgr (Nat.le_refl _) (fun k e => by cases e)) hown⟩
 unfold execOp; rw [ho]
 simp only [resolve, invoke, builtin, Sem.run_bind, Sem.run_pure, Result.andThen_ok, List.map_toArray, List.map_cons, List.map_nil, ha.eval hs, ha.eval hx, hr, hW]
/-- copy of known cells into row number k -/
theorem TL.copyRow {d k n c g off dl dc sl sc size : Nat} {s x : Operand} {t u e : TypeId} {ad : Addr} {xs cs xs' : List Value} (hg : o.guard = none) (hd : o.dst = some d) (hN : Nat.blt d N.n = true)
  (ho : o.op = .call { callee := .builtin .copy, args := #[s, x], argTypes := #[t, u] }) (ht : P.underlying t = some (.slice e)) (hz : ∀ w : World, (sizeOf e).run P w = .ok size w) (hs : ev E s = some (.slice (some ⟨g, off, none⟩) dl dc)) (hx : ev E x = some (.slice (some ad) sl sc))
  (hk : L[k]? = some (.row (.slice (some ⟨g, 0, none⟩) n c) e size n xs)) (hsrc : ∀ w, Pm w0 L w → ∀ j v, cs[j]? = some v → w.cell? (ad.add j) = some v) {m : Nat} (hm : Nat.min sl dl = m) (hn : cs.length = m * size) (hl : off + cs.length ≤ xs.length) (h1 : ∀ v ∈ cs, v.oneCell' = true)
  (hL : xs.take off ++ cs ++ xs.drop (off + cs.length) = xs')
  (h : TL P N ops Q l ((d, .int .i64 ((m : Nat) : Int)) :: E) (Pm w0 (L.set k (.row (.slice (some ⟨g, 0, none⟩) n c) e size n xs')))) : TL P N ops Q (o :: l) E (Pm w0 L) := by
 subst hL hm
 refine TL.run (α := Unit) (r := fun _ => .int .i64 ((Nat.min sl dl : Nat) : Int)) (I' := fun _ => Pm w0 (L.set k (.row (.slice (some ⟨g, 0, none⟩) n c) e size n (xs.take off ++ cs ++ xs.drop (off + cs.length))))) hg hd hN (fun a w ha hw => ?_) (fun _ => h)
 obtain ⟨cur, hcur, hfit, hown⟩ := row_put (hw.at_ hk) hl
 have hrun := run_copy_at (P := P) w t u o.type e g off dl dc ad sl sc size cur e cs ht hz hcur hn (hsrc w hw) hfit h1
 refine ⟨(), _, ?_, hw.turn hk (grown_setRow _ _) hown (fun g' hg' => .inl hg') (fun k o e => by cases e)⟩
 unfold execOp; rw [ho]
 simp only [resolve, invoke, builtin, Sem.run_bind, Sem.run_pure, Result.andThen_ok, List.map_toArray, List.map_cons, List.map_nil, ha.eval hs, ha.eval hx, hrun]
 rfl
/-- a row drawn out within its capacity: what stood behind it comes into sight -/
theorem TL.rowgrow {d k n c g hi size : Nat} {x y : Operand} {t e : TypeId} {q : IntKind} {xs : List Value} (hg : o.guard = none) (hd : o.dst = some d) (hN : Nat.blt d N.n = true)
  (ho : o.op = .slice t x none (some y) none) (hx : ev E x = some (.slice (some ⟨g, 0, none⟩) n c)) (hy : ev E y = some (.int q (hi : Int))) (ht : P.underlying t = some (.slice (P.elem t))) (hs : ∀ w : World, (sizeOf (P.elem t)).run P w = .ok size w)
  (hk : L[k]? = some (.row (.slice (some ⟨g, 0, none⟩) n c) e size n xs)) (hn : n ≤ hi) (hc : hi ≤ c)
  (h : ∀ us : List Value, us.length = (hi - n) * size → TL P N ops Q l ((d, .slice (some ⟨g, 0, none⟩) hi c) :: E) (Pm w0 (L.set k (.row (.slice (some ⟨g, 0, none⟩) hi c) e size hi (xs ++ us))))) : TL P N ops Q (o :: l) E (Pm w0 L) := by
 refine TL.run (α := {us : List Value // us.length = (hi - n) * size}) (r := fun _ => .slice (some ⟨g, 0, none⟩) hi c) (I' := fun us => Pm w0 (L.set k (.row (.slice (some ⟨g, 0, none⟩) hi c) e size hi (xs ++ us.1)))) hg hd hN (fun a w ha hw => ?_) (fun us => h us.1 us.2)
 have hrow := hw.at_ hk
 obtain ⟨h1, h2⟩ := hrow
 rcases h2 with ⟨e1, _⟩ | ⟨g', cap, cur, a1, hb, hgg, hnc, hmx, hsz, htk⟩
 ·cases e1
 cases a1
 have hle : n * size ≤ hi * size := Nat.mul_le_mul_right _ hn
 have hle2 : hi * size ≤ cur.size := by rw [hsz]; exact Nat.mul_le_mul_right _ hc
 have hsplit : cur.toList.take (hi * size) = xs ++ (cur.toList.take (hi * size)).drop (n * size) := by
  have h5 := (List.take_append_drop (n * size) (cur.toList.take (hi * size))).symm
  rw [List.take_take, Nat.min_eq_left hle, htk] at h5
  exact h5
 have hus : ((cur.toList.take (hi * size)).drop (n * size)).length = (hi - n) * size := by
  rw [List.length_drop, List.length_take, Array.length_toList, Nat.min_eq_left hle2, Nat.sub_mul]
 refine ⟨⟨_, hus⟩, w, ?_, hw.turn hk (World.grownBy.refl w _) ⟨?_, .inr ⟨g, c, cur, rfl, hb, hgg, hc, hmx, hsz, hsplit⟩⟩ (fun g' hg' => .inl hg') (fun _ _ e => by cases e)⟩
 ·unfold execOp; rw [ho]
  have hcut := cut_hi (P := P) (k := q) ht hs (some ⟨g, 0, none⟩) n c hi rfl hc w
  simp only [Option.map_some, Option.map_none, ha.eval hx, ha.eval hy, hcut, Sem.run_bind, Result.andThen_ok, Sem.run_pure]
 ·rw [← hsplit, List.length_take, Array.length_toList, Nat.min_eq_left hle2]
/-- a library function without a body, whose answer depends on what holds of the memory -/
theorem gives_externI {f : FuncId} {fn : Func} {xs : List Operand} {ts : Array TypeId} {vs : List Value} {e : Array Value → Sem Value} {v : Value} {I : World → Prop} (ho : o.op = .call { callee := .value (.func f), args := xs.toArray, argTypes := ts }) (hx : evs E xs = some vs)
  (hf : P.funcs[f]? = some fn) (hname : (fn.name == "runtime.NumGoroutine") = false) (hb : fn.body.isNone = true) (hn : Extern.findNext fn = none) (he : Extern.find fn = some e) (hv : ∀ w : World, I w → (e vs.toArray).run P w = .ok v w) : Gives P N o E I v := fun a w ha hw => by
 unfold execOp; rw [ho]
 have harr : xs.toArray.map a.eval = vs.toArray := by rw [List.map_toArray, ha.evals hx]
 have hfn : a.eval (.func f) = .func (.func f) #[] #[] := rfl
 simp only [resolve, harr, hfn, Deferred.ofValue]
 simp [invoke, run_callFunc_extern hf hname hb hn he, hv w hw, go_sem]
/-- what lies in another block stays as it was -/
theorem oth_at {w w1 : World} {g k : Nat} {L : List Pc} {ob : Obj} (h : Pm ⟨wbut w g, g⟩ L w1) (hs : ∀ q ∈ oths g w, q ∈ L) (hne : k ≠ g) (hk : w.heap[k]? = some ob) : w1.heap[k]? = some ob :=
 ((h.mapEnd hs).block k (Array.getElem?_eq_some_iff.1 hk).1 (fun e => hne (by cases e; rfl))).trans hk
theorem RwG.plain {e : TypeId} {size : Nat} {w : World} {g n c : Nat} {xs : List Value} (h : RwG e size w g n c xs) : ∃ cur : Array Value, w.heap[g]? = some (.cells cur e (0, 0)) ∧ cur.size = c * size ∧ cur.toList.take (n * size) = xs := by
 rcases h.2 with ⟨e1, _⟩ | ⟨g', cap, cur, a1, hb, hgg, hnc, hmx, hsz, htk⟩
 ·cases e1
 ·cases a1
  exact ⟨cur, hgg, hsz, htk⟩
theorem plain_shape {w : World} {g : Nat} {cur : Array Value} {e : TypeId} (h : w.heap[g]? = some (.cells cur e (0, 0))) : w.shape? g = some (e, cur.size) ∧ ∀ o, w.frozen? ⟨g, o, none⟩ = false := by
 constructor
 ·unfold World.shape?; rw [h]
 ·intro o
  unfold World.frozen?
  show (match w.heap[g]? with | some (.cells _ _ (lo, hi)) => lo ≤ o && o < hi | _ => false) = false
  rw [h]
  simp
theorem plain_cell {w : World} {g : Nat} {cur : Array Value} {e : TypeId} {n : Nat} {xs : List Value} (h : w.heap[g]? = some (.cells cur e (0, 0))) (ht : cur.toList.take n = xs) (j : Nat) (v : Value) (hj : xs[j]? = some v) : w.cell? ((⟨g, 0, none⟩ : Addr).add j) = some v := by
 have e1 : (⟨g, 0, none⟩ : Addr).add j = ⟨g, j, none⟩ := by unfold Addr.add; split <;> simp_all
 rw [e1, World.cell?, h]
 simp only [← Array.getElem?_toList]
 rw [← ht, List.getElem?_take] at hj
 split at hj
 ·exact hj
 ·cases hj
/-- the tail of a row, elements of any size -/
theorem gives_tailS {t : TypeId} {size : Nat} {x lo : Operand} {I : World → Prop} {g n c k : Nat} {q : IntKind} {z : Int} (ho : o.op = .slice t x (some lo) none none) (hx : ev E x = some (.slice (some ⟨g, 0, none⟩) n c)) (hl : ev E lo = some (.int q z)) (hz : z = (k : Int)) (ht : P.underlying t = some (.slice (P.elem t))) (hs : ∀ w : World, (sizeOf (P.elem t)).run P w = .ok size w) (hk : k < c) (hn : k ≤ n) :
  Gives P N o E I (.slice (some ⟨g, k * size, none⟩) (n - k) (c - k)) := gives_sliceL ho hx hl fun w => by
 have h := cut_lo (P := P) ht hs (some ⟨g, 0, none⟩) n c k (k := q) hz hn w
 rw [if_neg (by omega), Option.map_some] at h
 have : (⟨g, 0, none⟩ : Addr).add (k * size) = ⟨g, k * size, none⟩ := by unfold Addr.add; split <;> simp_all
 rwa [this] at h
/-- the first piece lies in block g or in a new one -/
theorem key_new {w w1 : World} {g g' : Nat} {L : List Pc} {p : Pc} (h : Pm ⟨wbut w g, g⟩ (p :: L) w1) (hs : ∀ q ∈ oths g w, q ∈ L) (hp : p.key = some g') : g' = g ∨ w.heap.size ≤ g' := by
 have h1 : g ≤ g' := (Pc.lt (h.own p List.mem_cons_self) g' hp).1
 rcases Nat.eq_or_lt_of_le h1 with e | h2
 ·exact .inl e.symm
 ·rcases Nat.lt_or_ge g' w.heap.size with h3 | h3
  ·obtain ⟨o, _, hm⟩ := oths_mem h2 h3
   exact absurd rfl ((List.pairwise_cons.1 h.apart).1 _ (hs _ hm) g' hp)
  ·exact .inr h3
/-- a call that may change row number k, and may give it another place -/
theorem TL.pcallGrow {d k n c M : Nat} {A : Option Addr} {e : TypeId} {size : Nat} {xs ys : List Value} {f : FuncId} {fn : Func} {es : List Operand} {ts : Array TypeId} {vs : List Value} (hg : o.guard = none) (hd : o.dst = some d) (hN : Nat.blt d N.n = true)
  (ho : o.op = .call { callee := .value (.func f), args := es.toArray, argTypes := ts }) (hx : evs E es = some vs) (hf : P.funcs[f]? = some fn) (hn : (fn.name == "runtime.NumGoroutine") = false) (hb : fn.body.isNone = false)
  (hk : L[k]? = some (.row (.slice A n c) e size n xs)) (hc : ∀ w, Pm w0 L w → w.ownsRow w0.b e size (.slice A n c) n xs → Calls P f vs.toArray w fun en w' => ∃ y : {p : Option Addr × Nat // M ≤ p.2 ∧ p.2 ≤ maxLen}, en = .returned (.slice y.1.1 M y.1.2) ∧ w'.ownsRow w0.b e size (.slice y.1.1 M y.1.2) M ys ∧ w.grownBy w' (Value.slice A n c).ownBlock ∧ ∀ g', (Value.slice y.1.1 M y.1.2).ownBlock = some g' → (Value.slice A n c).ownBlock = some g' ∨ w.heap.size ≤ g')
  (h : ∀ A' c', M ≤ c' → c' ≤ maxLen → TL P N ops Q l ((d, .slice A' M c') :: E) (Pm w0 (L.set k (.row (.slice A' M c') e size M ys)))) : TL P N ops Q (o :: l) E (Pm w0 L) :=
 TL.call (α := {p : Option Addr × Nat // M ≤ p.2 ∧ p.2 ≤ maxLen}) (r := fun y => .slice y.1.1 M y.1.2) (I' := fun y => Pm w0 (L.set k (.row (.slice y.1.1 M y.1.2) e size M ys))) hg hd hN ho hx hf hn hb (fun w hw => (hc w hw (hw.at_ hk)).mono fun en w' ⟨y, he, hr, hgr, hkey⟩ => ⟨y, he,
  hw.turn hk hgr hr hkey (fun _ _ e => by cases e)⟩) (fun y => h y.1.1 y.1.2 y.2.1 y.2.2)
/-- the slice that is handed in lies in a block of its own -/
theorem RwG.far {e : TypeId} {size : Nat} {w w1 : World} {g k n c : Nat} {L : List Pc} {xs : List Value} (h : Pm ⟨wbut w g, g⟩ L w1) (hs : ∀ q ∈ oths g w, q ∈ L) (hne : k ≠ g) (hv : RwG e size w k n c xs) : RwG e size w1 k n c xs := by
 refine ⟨hv.1, ?_⟩
 rcases hv.2 with ⟨e1, _⟩ | ⟨g', cap, cur, a1, hb, hgg, r⟩
 ·cases e1
 ·cases a1
  exact .inr ⟨k, c, cur, rfl, hb, oth_at h hs hne hgg, r⟩
end
end Go.Proofs.Ytleckflmckbheaa
