/-
  A walk by rules: pieces picked by number, results of which one lies in a cell, slices of structs that are spelled out, an agg by its cells. No program is imported.
-/
import Derived.Test.YtmbcclgnjobikaaSymChg
import Derived.Test.YtmbcclgnjobikaaSymPair
import Derived.Laws.BytesString
namespace Go.Proofs.Ytmbcclgnjobikaa
open Go.RowKit
set_option linter.unusedVariables false
set_option linter.unusedSimpArgs false
theorem Pm.neq {w0 : Base} {w : World} {L : List Pc} {i j : Nat} {p q : Pc} (h : Pm w0 L w) (hi : L[i]? = some p) (hj : L[j]? = some q) (hij : i ≠ j) : ∀ g, p.key = some g → q.key ≠ some g := by
  intro g hp hq
  obtain ⟨hi1, hi2⟩ := List.getElem?_eq_some_iff.1 hi
  obtain ⟨hj1, hj2⟩ := List.getElem?_eq_some_iff.1 hj
  rcases Nat.lt_or_gt_of_ne hij with h1 | h1
  · exact List.pairwise_iff_getElem.1 h.apart i j hi1 hj1 h1 g (by rw [hi2]; exact hp) (by rw [hj2]; exact hq)
  · exact List.pairwise_iff_getElem.1 h.apart j i hj1 hi1 h1 g (by rw [hj2]; exact hq) (by rw [hi2]; exact hp)
theorem Pm.pick {w0 : Base} {w : World} {L L' : List Pc} (h : Pm w0 L w) (ks : List Nat) (hn : ks.Nodup) (he : ks.map (fun k => L[k]?) = L'.map some) : Pm w0 L' w := by
  have key : ∀ (i : Nat) (p : Pc), L'[i]? = some p → ∃ k, ks[i]? = some k ∧ L[k]? = some p := by
    intro i p hi
    have e := congrArg (fun l => l[i]?) he
    simp only [List.getElem?_map, hi, Option.map_some] at e
    cases hk : ks[i]? with
    | none => rw [hk] at e; simp at e
    | some k => rw [hk] at e; simp only [Option.map_some, Option.some.injEq] at e; exact ⟨k, rfl, e⟩
  refine ⟨h.bel, fun p hp => ?_, ?_, h.oth, h.low⟩
  · obtain ⟨i, hi⟩ := List.getElem?_of_mem hp
    obtain ⟨k, _, hk⟩ := key i p hi
    exact h.own p (List.mem_of_getElem? hk)
  · refine List.pairwise_iff_getElem.2 fun i j hi hj hij => ?_
    obtain ⟨a, ha, hpa⟩ := key i _ (List.getElem?_eq_getElem hi)
    obtain ⟨b, hb, hpb⟩ := key j _ (List.getElem?_eq_getElem hj)
    refine h.neq hpa hpb fun e => ?_
    subst e
    obtain ⟨ha1, ha2⟩ := List.getElem?_eq_some_iff.1 ha
    obtain ⟨hb1, hb2⟩ := List.getElem?_eq_some_iff.1 hb
    have := (List.pairwise_iff_getElem.1 hn) i j ha1 hb1 hij
    rw [ha2, hb2] at this
    exact this rfl
section
variable {P : Program} {N : Fr} {Q : Exit → Act → World → Prop} {E : Env} {w0 : Base} {L : List Pc} {ops : Array Oper} {l : List Oper} {o : Oper}
/-- an agg, by its cells -/
theorem pm_loadV {t te : TypeId} {x : Operand} {g i k n : Nat} {v : Value} {cs : List Value} (ho : o.op = .load t x) (hx : ev E x = some (.pointer (some ⟨g, i, none⟩))) (hag : ∀ w : World, (isAgg t).run P w = .ok true w) (hs : ∀ w : World, (sizeOf t).run P w = .ok n w)
    (hk : L[k]? = some (.blk g te cs)) (hi : i + n ≤ cs.length) (hv : .agg ((cs.drop i).take n).toArray = v) : Gives P N o E (Pm w0 L) v := hv ▸ pm_loadAgg ho hx hag hs hk hi
/-- a slice that is spelled out: a new row -/
theorem TL.prowS {d : Nat} {t e : TypeId} {n size : Nat} {xs : List (Nat × Operand)} {vs : List (Nat × Value)} {cs : List Value} (hg : o.guard = none) (hd : o.dst = some d) (hN : Nat.blt d N.n = true)
    (ho : o.op = .buildSlice t n xs.toArray) (hx : evp E xs = some vs) (hr : ∀ w : World, (Instr.buildSlice t n vs.toArray).run P w = .ok (.slice (some ⟨w.heap.size, 0, none⟩) n n) (w.alloc (.cells cs.toArray e))) (hn : n ≤ maxLen) (hc : cs.length = n * size)
    (h : ∀ g, TL P N ops Q l ((d, .slice (some ⟨g, 0, none⟩) n n) :: E) (Pm w0 (.row (.slice (some ⟨g, 0, none⟩) n n) e size n cs :: L))) : TL P N ops Q (o :: l) E (Pm w0 L) :=
  TL.run (α := Nat) (r := fun g => .slice (some ⟨g, 0, none⟩) n n) (I' := fun g => Pm w0 (.row (.slice (some ⟨g, 0, none⟩) n n) e size n cs :: L)) hg hd hN (fun a w ha hw => by
    refine ⟨w.heap.size, w.alloc (.cells cs.toArray e), ?_, hw.add ((Below.refl _ _).alloc (Nat.le_refl _) _) ⟨hc, .inr ⟨w.heap.size, n, cs.toArray, rfl, Nat.le_refl _, heap_alloc_new w _, Nat.le_refl _, hn, by simpa using hc, ?_⟩⟩⟩
    · unfold execOp; rw [ho]
      simp only [ha.evalps hx, Sem.run_bind, hr, Result.andThen_ok, Sem.run_pure, List.map_toArray]
    · simp [← hc]) h
/-- calls that leave the world as it is -/
theorem TL.stcall {d : Nat} {I : World → Prop} {f : FuncId} {fn : Func} {xs : List Operand} {ts : Array TypeId} {vs : List Value} {r : Value} (hg : o.guard = none) (hd : o.dst = some d) (hN : Nat.blt d N.n = true)
    (ho : o.op = .call { callee := .value (.func f), args := xs.toArray, argTypes := ts }) (hx : evs E xs = some vs) (hf : P.funcs[f]? = some fn) (hn : (fn.name == "runtime.NumGoroutine") = false) (hb : fn.body.isNone = false)
    (hc : ∀ w, I w → Calls P f vs.toArray w fun e w' => e = .returned r ∧ w' = w) (h : TL P N ops Q l ((d, r) :: E) I) : TL P N ops Q (o :: l) E I :=
  TL.call (α := Unit) (r := fun _ => r) (I' := fun _ => I) hg hd hN ho hx hf hn hb (fun w hw => (hc w hw).mono fun e w' ⟨he, hb⟩ => ⟨(), he, hb ▸ hw⟩) (fun _ => h)
theorem TS.call {d : Nat} {I : World → Prop} {R : Act → World → Prop} {f : FuncId} {fn : Func} {xs : List Operand} {ts : Array TypeId} {vs : List Value} {r : Value} (hg : o.guard = none) (hd : o.dst = some d) (hN : Nat.blt d N.n = true)
    (ho : o.op = .call { callee := .value (.func f), args := xs.toArray, argTypes := ts }) (hx : evs E xs = some vs) (hf : P.funcs[f]? = some fn) (hn : (fn.name == "runtime.NumGoroutine") = false) (hb : fn.body.isNone = false)
    (hc : ∀ w, I w → Calls P f vs.toArray w fun e w' => e = .returned r ∧ w' = w) (h : TS P N ops R l ((d, r) :: E) I) : TS P N ops R (o :: l) E I := fun a w ha hw => by
  unfold wpStill
  rw [if_pos (by simp [Region.wanted, hg])]
  unfold Oper.still
  rw [enters ha ho hx hf hn hb]
  refine ⟨rfl, r, hc w hw, ?_⟩
  rw [hd]
  exact h _ _ (ha.put d r (by simpa [Nat.blt_eq] using hN)) hw
theorem ret_cell2 {fn : Func} {p u : Tmp} {t te : TypeId} {g k : Nat} {cs : List Value} {v : Value} {d : TypeDesc} {R : Ending → World → Prop} (hr : fn.results = #[.cell p t, .tmp u]) (hp : look E p = some (.pointer (some ⟨g, 0, none⟩))) (hv : look E u = some v) (hk : L[k]? = some (.blk g te cs))
    (hu : P.underlying t = some d) (hd : (match d with | .struct _ | .array _ _ => true | _ => false) = true) (hi : (P.info? t).map (·.size) = some cs.length) (hR : ∀ w, Pm w0 L w → R (.returned (.tuple #[.agg cs.toArray, v])) w) (hD : N.ds = [] := by rfl) :
    TX N (bodyPost P fn R) .ret E (Pm w0 L) := fun a w ha hw =>
  ⟨ha.defers.trans hD, .tuple #[.agg cs.toArray, v], by
    have e1 := ha.slot p _ hp
    have e2 := ha.slot u _ hv
    simp [results, hr, e1, e2, asAddr, run_loadVar_row w g te t cs.toArray (0, 0) d (hw.at_ hk).1 hu hd (by simpa using hi)], hR w hw⟩
theorem ret_cell3 {fn : Func} {p u u2 : Tmp} {t te : TypeId} {g k : Nat} {cs : List Value} {v v2 : Value} {d : TypeDesc} {R : Ending → World → Prop} (hr : fn.results = #[.cell p t, .tmp u, .tmp u2]) (hp : look E p = some (.pointer (some ⟨g, 0, none⟩))) (hv : look E u = some v) (hv2 : look E u2 = some v2) (hk : L[k]? = some (.blk g te cs))
    (hu : P.underlying t = some d) (hd : (match d with | .struct _ | .array _ _ => true | _ => false) = true) (hi : (P.info? t).map (·.size) = some cs.length) (hR : ∀ w, Pm w0 L w → R (.returned (.tuple #[.agg cs.toArray, v, v2])) w) (hD : N.ds = [] := by rfl) :
    TX N (bodyPost P fn R) .ret E (Pm w0 L) := fun a w ha hw =>
  ⟨ha.defers.trans hD, .tuple #[.agg cs.toArray, v, v2], by
    have e1 := ha.slot p _ hp
    have e2 := ha.slot u _ hv
    have e3 := ha.slot u2 _ hv2
    simp [results, hr, e1, e2, e3, asAddr, run_loadVar_row w g te t cs.toArray (0, 0) d (hw.at_ hk).1 hu hd (by simpa using hi)], hR w hw⟩
theorem ret_cell4 {fn : Func} {p u u2 u3 : Tmp} {t te : TypeId} {g k : Nat} {cs : List Value} {v v2 v3 : Value} {d : TypeDesc} {R : Ending → World → Prop} (hr : fn.results = #[.tmp u, .tmp u2, .cell p t, .tmp u3]) (hp : look E p = some (.pointer (some ⟨g, 0, none⟩))) (hv : look E u = some v) (hv2 : look E u2 = some v2) (hv3 : look E u3 = some v3) (hk : L[k]? = some (.blk g te cs))
    (hu : P.underlying t = some d) (hd : (match d with | .struct _ | .array _ _ => true | _ => false) = true) (hi : (P.info? t).map (·.size) = some cs.length) (hR : ∀ w, Pm w0 L w → R (.returned (.tuple #[v, v2, .agg cs.toArray, v3])) w) (hD : N.ds = [] := by rfl) :
    TX N (bodyPost P fn R) .ret E (Pm w0 L) := fun a w ha hw =>
  ⟨ha.defers.trans hD, .tuple #[v, v2, .agg cs.toArray, v3], by
    have e1 := ha.slot p _ hp
    have e2 := ha.slot u _ hv
    have e3 := ha.slot u2 _ hv2
    have e4 := ha.slot u3 _ hv3
    simp [results, hr, e1, e2, e3, e4, asAddr, run_loadVar_row w g te t cs.toArray (0, 0) d (hw.at_ hk).1 hu hd (by simpa using hi)], hR w hw⟩
theorem conv_byt {src dst e : TypeId} (hs : P.underlying src = some (.slice e)) (he : P.underlying e = some (.int .u8)) (hd : P.underlying dst = some .string) {w : World} {B n c : Nat} {A : Option Addr} {l : List Int} (h : Byt w B A n l) :
    (convert src dst (.slice A n c)).run P w = .ok (sv l) w := by
  rcases Nat.eq_zero_or_pos n with hn | hn
  · subst hn
    have e0 : l = [] := List.eq_nil_of_length_eq_zero h.len
    subst e0
    rw [run_convert_bytes_string w src dst e _ 0 c hs he hd]
    cases A with
    | none => simp [Conv.bytesToString]; rfl
    | some a => simp [Conv.bytesToString, loadCells]; rfl
  · obtain ⟨b, o, x, rfl, _⟩ := h.at' (k := 0) hn
    refine run_convert_bytes_arg w src _ hs he b o n c l h.len (fun i hi => ?_) dst hd
    obtain ⟨b', o', y, hA, _, hy, _, _, hc⟩ := h.at' (k := i) hi
    cases hA
    rw [hc]
    simp [List.getD, hy]
/-- a string of bytes that are read -/
theorem gives_strB {src dst e : TypeId} {x : Operand} {A : Option Addr} {n c : Nat} {l : List Int} {I : World → Prop} (ho : o.op = .convert src dst x) (hx : ev E x = some (.slice A n c)) (hs : P.underlying src = some (.slice e)) (he : P.underlying e = some (.int .u8)) (hd : P.underlying dst = some .string)
    (hb : ∀ w, I w → ∃ B, Byt w B A n l) : Gives P N o E I (sv l) := fun a w ha hw => by
  obtain ⟨B, h⟩ := hb w hw
  unfold execOp; rw [ho]
  simp only [ha.eval hx, Sem.run_bind, conv_byt hs he hd h, Result.andThen_ok, Sem.run_pure]
end
theorem addr_zero (a : Addr) : a.add 0 = a := by cases a; simp [Addr.add]
section
variable {P : Program} {N : Fr} {E : Env} {o : Oper}
theorem cut_hi {t : TypeId} {size : Nat} (ht : P.underlying t = some (.slice (P.elem t))) (hs : ∀ w : World, (sizeOf (P.elem t)).run P w = .ok size w) (A : Option Addr) (n c hi : Nat) {k : IntKind} {a : Int} (ha : a = (hi : Int)) (h : hi ≤ c) (w : World) :
    (Instr.sliceAt t (.slice A n c) none (some (.int k a)) none).run P w = .ok (.slice A hi c) w := by
  subst ha
  rw [run_sliceAt_slice w t _ _ _ _ ht, run_slice_h w t A n c ht k hi (by omega) (by omega)]
  simp only [hs, Result.andThen, sliced, Int.toNat_natCast, Nat.zero_mul, Nat.sub_zero]
  congr 2
  cases A with
  | none => simp
  | some a => simp [addr_zero]
theorem gives_sliceH {t : TypeId} {x hi : Operand} {vx vh v : Value} {I : World → Prop} (ho : o.op = .slice t x none (some hi) none) (hx : ev E x = some vx) (hh : ev E hi = some vh) (hv : ∀ w : World, (Instr.sliceAt t vx none (some vh) none).run P w = .ok v w) : Gives P N o E I v := fun a w ha _ => by
  unfold execOp; rw [ho]
  simp only [Option.map_some, Option.map_none, ha.eval hx, ha.eval hh, Sem.run_bind, hv, Result.andThen_ok, Sem.run_pure]
end
theorem byt_ne {w : World} {B g n : Nat} {A : Option Addr} {l : List Int} (h : Byt w B A n l) (hg : B ≤ g) : 0 < n → ∀ ad, A = some ad → ad.block ≠ g := by
  intro hn ad e
  obtain ⟨ad', h1, h2, _⟩ := h.1.2 hn
  rw [e] at h1
  cases h1
  omega
theorem byt_grown' {w w1 : World} {cb n : Nat} {A : Option Addr} {l : List Int} (h : Byt w w.heap.size A n l) (hne : 0 < n → ∀ ad, A = some ad → ad.block ≠ cb) (hg : w.grownBy w1 (some cb)) : Byt w1 w1.heap.size A n l := by
  rcases Nat.eq_zero_or_pos n with hn | hn
  · subst hn
    exact ⟨⟨h.1.1, fun hn => absurd hn (by omega)⟩, h.2⟩
  · exact byt_grown h (hne hn) hg
end Go.Proofs.Ytmbcclgnjobikaa
