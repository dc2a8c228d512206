/-
  Texts of the proof, joined: SymCpt, PtCpt, SymOrd, PtOrd, SymCopy, PtROrd, PtTrc, PtOf, SymMapV, SymMapR, PtKey.
-/
import Derived.Test.YtnejdeklnmkhbaaGreatPathsResultsPk2
import Derived.Test.YtnejdeklnmkhbaaGreatPathsResultsPk1
import Derived.Lib.Overlaps
import Derived.Maps.RangeRun
import Derived.DeepKeys5
set_option linter.unusedVariables false
set_option linter.unusedSimpArgs false
namespace Go.Proofs.YtnejdeklnmkhbaaGreat
open Go.RowKit
section
variable {α : Type} [DecidableEq α]
def cptG : List α → List α
  | [] => []
  | [a] => [a]
  | a :: b :: l => if a = b then cptG (b :: l) else a :: cptG (b :: l)
theorem cptG_snoc : ∀ (l : List α) (a : α), cptG (l ++ [a]) = if l.getLast? = some a then cptG l else cptG l ++ [a]
  | [], a => by simp [cptG]
  | [b], a => by
    show cptG [b, a] = _
    simp only [cptG, List.getLast?_singleton, Option.some.injEq]
    split
    · rename_i h; rw [h]
    · rfl
  | b :: d :: l, a => by
    have ih := cptG_snoc (d :: l) a
    have e : (b :: d :: l).getLast? = (d :: l).getLast? := by rw [List.getLast?_cons_cons]
    rw [e]
    show cptG (b :: d :: (l ++ [a])) = _
    rw [cptG]
    have ih' : cptG (d :: (l ++ [a])) = if (d :: l).getLast? = some a then cptG (d :: l) else cptG (d :: l) ++ [a] := ih
    rw [ih', cptG]
    split <;> split <;> simp
theorem mem_cptG (x : α) : ∀ l : List α, x ∈ cptG l ↔ x ∈ l
  | [] => Iff.rfl
  | [a] => Iff.rfl
  | a :: b :: l => by
    have ih := mem_cptG x (b :: l)
    rw [cptG]
    split
    · rename_i h
      rw [ih, h, List.mem_cons, List.mem_cons, List.mem_cons]
      constructor
      · exact fun hh => .inr hh
      · rintro (hh | hh)
        · exact .inl hh
        · exact hh
    · rw [List.mem_cons, ih, List.mem_cons, List.mem_cons]
      simp [List.mem_cons]
theorem cptG_le : ∀ l : List α, (cptG l).length ≤ l.length
  | [] => Nat.le_refl _
  | [a] => Nat.le_refl _
  | a :: b :: l => by
    have ih := cptG_le (b :: l)
    rw [cptG]
    split
    · exact Nat.le_trans ih (Nat.le_succ _)
    · simpa using ih
theorem cptG_step {l : List α} {k : Nat} {x y : α} (hx : l[k]? = some x) (hy : l[k - 1]? = some y) (hk : 1 ≤ k) : cptG (l.take (k + 1)) = if y = x then cptG (l.take k) else cptG (l.take k) ++ [x] := by
  rw [List.take_add_one, hx]
  show cptG (l.take k ++ [x]) = _
  rw [cptG_snoc]
  have : (l.take k).getLast? = some y := by
    rw [List.getLast?_eq_getElem?, List.length_take, Nat.min_eq_left (by have := (List.getElem?_eq_some_iff.1 hx).1; omega), List.getElem?_take_of_lt (by omega), hy]
  rw [this]
  simp only [Option.some.injEq]
theorem cptG_take1 : ∀ l : List α, cptG (l.take 1) = l.take 1
  | [] => rfl
  | a :: l => rfl
theorem cptG_short {l : List α} (h : l.length < 2) : cptG l = l := by
  match l, h with
  | [], _ => rfl
  | [a], _ => rfl
end
section
variable {P : Program} {N : Fr} {Q : Exit → Act → World → Prop} {E : Env} {w0 : Base} {L : List Pc} {ops : Array Oper} {l : List Oper} {o : Oper} {α : Type} {c : α → List Value} {k : Nat}
theorem zeroCells_flat (K : Cel c k) (z : α) (m : Nat) : (Builtin.zeroCells (c z).toArray m).toList = flat c (List.replicate m z) := by
  apply List.ext_getElem?
  intro t
  by_cases ht : t < m * k
  · have k0 : 0 < k := by rcases Nat.eq_zero_or_pos k with h | h; · subst h; omega
                          · exact h
    have hi : t / k < m := Nat.div_lt_of_lt_mul (by rwa [Nat.mul_comm] at ht)
    have hx : (List.replicate m z)[t / k]? = some z := by rw [List.getElem?_replicate, if_pos hi]
    have h1 := flat_ix K hx (t % k) (Nat.mod_lt _ k0)
    rw [show t / k * k + t % k = t from by rw [Nat.mul_comm]; exact Nat.div_add_mod t k] at h1
    rw [h1]
    have hm : t % k < (c z).length := by rw [K.len]; exact Nat.mod_lt _ k0
    simp [Builtin.zeroCells, K.len, ht, hm]
    rw [List.getElem?_eq_getElem hm, Option.getD_some]
  · rw [List.getElem?_eq_none (by simp [Builtin.zeroCells, K.len]; omega), List.getElem?_eq_none (by rw [flat_len K]; simp; omega)]
theorem gives_tailF {t : TypeId} {x lo : Operand} {I : World → Prop} {g n cc size q : Nat} {qk : IntKind} {z : Int} (ho : o.op = .slice t x (some lo) none none) (hx : ev E x = some (.slice (some ⟨g, 0, none⟩) n cc)) (hl : ev E lo = some (.int qk z)) (hz : z = (q : Int)) (ht : P.underlying t = some (.slice (P.elem t))) (hs : ∀ w : World, (sizeOf (P.elem t)).run P w = .ok size w) (hk : q < cc) (hn : q ≤ n) :
    Gives P N o E I (.slice (some ⟨g, q * size, none⟩) (n - q) (cc - q)) := gives_sliceL ho hx hl fun w => by
  have h := cut_lo (P := P) ht hs (some ⟨g, 0, none⟩) n cc q (k := qk) hz hn w
  rw [if_neg (by omega), Option.map_some] at h
  have : (⟨g, 0, none⟩ : Addr).add (q * size) = ⟨g, q * size, none⟩ := by unfold Addr.add; split <;> simp_all
  rwa [this] at h
theorem at_elT {t e : TypeId} {size : Nat} (ht : P.underlying t = some (.slice e)) (hs : ∀ w : World, (sizeOf e).run P w = .ok size w) (g q n cc i : Nat) (hi : i < n) {z : Int} (hz : z = (i : Int)) (w : World) :
    (Instr.indexAt t (.slice (some ⟨g, q * size, none⟩) n cc) (.int .i64 z)).run P w = .ok (.pointer (some ⟨g, 0 + (q + i) * size, none⟩)) w := by
  have := at_el (P := P) ht hs (A := some ⟨g, q * size, none⟩) (b := g) (off := q * size) rfl n cc i hi hz w
  rwa [show q * size + i * size = 0 + (q + i) * size by rw [Nat.add_mul]; omega] at this
theorem TL.clearF (K : Cel c k) {t e : TypeId} {s : Operand} {g q n cc m cc2 kk : Nat} {z : α} {xs : List α} (hg : o.guard = none) (hd : o.dst = none) (ho : o.op = .call { callee := .builtin .clear, args := #[s], argTypes := #[t] }) (hs : ev E s = some (.slice (some ⟨g, q * k, none⟩) m cc2))
    (ht : P.underlying t = some (.slice e)) (hz : ∀ w : World, (zeroValue e).run P w = .ok (.agg (c z).toArray) w) (hm : 0 < m) (hq : q + m = xs.length)
    (hk : L[kk]? = some (.row (.slice (some ⟨g, 0, none⟩) n cc) e k n (flat c xs)))
    (h : TL P N ops Q l E (Pm w0 (L.set kk (.row (.slice (some ⟨g, 0, none⟩) n cc) e k n (flat c (xs.take q ++ List.replicate m z)))))) : TL P N ops Q (o :: l) E (Pm w0 L) := by
  have e1 : (flat c (List.replicate m z)).length = m * k := by rw [flat_len K, List.length_replicate]
  have e2 : (flat c xs).length = q * k + m * k := by rw [flat_len K, ← hq, Nat.add_mul]
  refine TL.rowclear (zs := flat c (List.replicate m z)) hg hd ho hs ht hz (zeroCells_flat K z m) (flat_one K _) hm hk (by rw [e1, e2]; omega) (xs' := flat c (xs.take q ++ List.replicate m z)) ?_ h
  rw [e1, List.drop_of_length_le (by rw [e2]; omega), List.append_nil, flat_app, flat_take K]
theorem TL.headF (K : Cel c k) {d kk n cc hi : Nat} {t e : TypeId} {x y : Operand} {k2 : IntKind} {A : Option Addr} {xs : List α} (hg : o.guard = none) (hd : o.dst = some d) (hN : Nat.blt d N.n = true)
    (ho : o.op = .slice t x none (some y) none) (hx : ev E x = some (.slice A n cc)) (hy : ev E y = some (.int k2 (hi : Int))) (ht : P.underlying t = some (.slice (P.elem t))) (hs : ∀ w : World, (sizeOf (P.elem t)).run P w = .ok k w)
    (hk : L[kk]? = some (.row (.slice A n cc) e k n (flat c xs))) (hh : hi ≤ n) (hc : n ≤ cc)
    (h : TL P N ops Q l ((d, .slice A hi cc) :: E) (Pm w0 (L.set kk (.row (.slice A hi cc) e k hi (flat c (xs.take hi)))))) : TL P N ops Q (o :: l) E (Pm w0 L) :=
  TL.rowhead hg hd hN ho hx hy ht hs hk hh hc (flat_take K xs hi) h
theorem TL.turnRow2 {d q n cap m : Nat} {A : Option Addr} {e : TypeId} {size : Nat} {xs ys : List α} {f : FuncId} {fn : Func} {es : List Operand} {ts : Array TypeId} {vs : List Value} (hg : o.guard = none) (hd : o.dst = some d) (hN : Nat.blt d N.n = true)
    (ho : o.op = .call { callee := .value (.func f), args := es.toArray, argTypes := ts }) (hx : evs E es = some vs) (hf : P.funcs[f]? = some fn) (hn : (fn.name == "runtime.NumGoroutine") = false) (hb : fn.body.isNone = false)
    (hk : L[q]? = some (.row (.slice A n cap) e size n (flat c xs))) (hc : ∀ w, Pm w0 L w → w.ownsRow w0.b e size (.slice A n cap) n (flat c xs) → Calls P f vs.toArray w fun en w' => en = .returned (.slice A m cap) ∧ w'.ownsRow w0.b e size (.slice A m cap) m (flat c ys) ∧ w.grownBy w' (Value.ownBlock (.slice A n cap)))
    (h : TL P N ops Q l ((d, .slice A m cap) :: E) (Pm w0 (L.set q (.row (.slice A m cap) e size m (flat c ys))))) : TL P N ops Q (o :: l) E (Pm w0 L) :=
  TL.call (α := Unit) (r := fun _ => .slice A m cap) (I' := fun _ => Pm w0 (L.set q (.row (.slice A m cap) e size m (flat c ys)))) hg hd hN ho hx hf hn hb (fun w hw => (hc w hw (hw.at_ hk)).mono fun en w' ⟨he, hr, hgr⟩ => ⟨(), he, by
    cases A with
    | none =>
      have hE : w.grownBy w' none := hgr
      exact hw.turn hk hE hr (fun g hg => by cases hg) (fun _ _ e => by cases e)
    | some a => exact hw.turn hk hgr hr (fun g' hg' => .inl hg') (fun _ _ e => by cases e)⟩) (fun _ => h)
end
set_option maxRecDepth 20000
def Trc.zero : Trc := ⟨0, 0, 0⟩
def Wre.zero : Wre := ⟨0, 0⟩
theorem pcpzv47 (w : World) : (zeroValue 47).run Tryz.prog w = .ok (.agg #[.int .i64 0, .int .i64 0, .int .i64 0, .int .i64 0, .int .u32 0, .int .i64 0, .int .i64 0, .int .i64 0, .bool false, .bool false, .int .i64 0, .int .u32 0, .int .i64 0, .int .i64 0, .int .i64 0, .int .i64 0, .int .i64 0]) w := rfl
theorem pcpag32 (w : World) : (isAgg 32).run Tryz.prog w = .ok true w := rfl
theorem pcpsz54 (w : World) : (sizeOf 54).run Tryz.prog w = .ok 2 w := rfl
theorem pcpag54 (w : World) : (isAgg 54).run Tryz.prog w = .ok true w := rfl
theorem pcpzv54 (w : World) : (zeroValue 54).run Tryz.prog w = .ok (.agg #[.int .u32 0, .int .u32 0]) w := rfl
set_option maxHeartbeats 1000000 in
theorem compactRs_g (g n c : Nat) (xs : List Rs) (w : World) (h : RwG 47 17 w g n c (flat Rs.cells xs)) (hl : xs.length = n) (hn : n ≤ 1000000) :
  Calls Tryz.prog 88 #[.slice (some ⟨g, 0, none⟩) n c] w fun en w' => en = .returned (.slice (some ⟨g, 0, none⟩) (cptG xs).length c) ∧ RwG 47 17 w' g (cptG xs).length c (flat Rs.cells (cptG xs)) ∧ w.grownBy w' (some g) := by
 have hcap := h.obj.2.1
 have hmax := h.obj.2.2
 refine begin_ (vs := [.slice (some ⟨g, 0, none⟩) n c]) (I := Pm ⟨wbut w g, g⟩ (.row (.slice (some ⟨g, 0, none⟩) n c) 47 17 n (flat Rs.cells xs) :: oths g w)) Tryz.func88 rfl rfl rfl ?_ (Pm.rowStartG h)
 refine TC.seq_ (TC.region ?_)
 refine TL.as_ ?_
 refine TL.end_ (TX.then_ (TC.seq_ (TC.seq_ (TC.region ?_))))
 refine TL.mv ?_
 refine TL.val rfl rfl rfl (gives_len rfl Tryz.underlying26 rfl) ?_
 refine TL.vsplit rfl rfl rfl (gives_bin rfl rfl rfl (fun w => bin_lss w)) (fun h8 => ?_) (fun h8 => ?_)
 ·have q8 := of_decide_eq_true h8
  have hE : cptG xs = xs := cptG_short (by omega)
  refine TL.end_ (TX.then_ (TC.condT rfl (TC.seq_ (TC.region ?_))))
  refine TL.mv ?_
  refine TL.as_ ?_
  refine TL.end_ (TX.then_ (TC.ret_ (TX.then_ret ?_)))
  exact ret_tmp Tryz.results88 rfl (fun w1 hw => by rw [hE, hl]; exact ⟨rfl, pm_rowAtG hw (k := 0) rfl, hw.mapEnd (fun q hq => by simp [hq])⟩)
 ·have q8 := of_decide_eq_false h8
  refine TL.end_ (TX.then_ (TC.condF rfl (TC.skip_ (TX.then_ (TC.seq_ (TC.seq_ (TC.region ?_)))))))
  refine TL.as_ ?_
  refine TL.end_ (TX.then_ (TC.block ?_))
  refine TC.loop_ (α := {k : Nat // 1 ≤ k ∧ k ≤ n ∧ cptG (xs.take k) = xs.take k}) (fun y => [(0, .slice (some ⟨g, 0, none⟩) n c), (3, .int .i64 ((y.1 : Nat) : Int))]) (fun y => Pm ⟨wbut w g, g⟩ ([.row (.slice (some ⟨g, 0, none⟩) n c) 47 17 n (flat Rs.cells xs)] ++ oths g w)) (fun y => n - y.1) (⟨1, Nat.le_refl _, by omega, cptG_take1 xs⟩) ⟨rfl, rfl, trivial⟩ (fun w1 hw => hw) ?_
  rintro ⟨k0, hk1, hk2, hK⟩
  try dsimp only
  refine TC.seq_ (TC.seq_ (TC.region ?_))
  refine TL.mv ?_
  refine TL.mv ?_
  refine TL.val rfl rfl rfl (gives_len rfl Tryz.underlying26 rfl) ?_
  refine TL.vsplit rfl rfl rfl (gives_bin rfl rfl rfl (fun w => bin_lss w)) (fun h13 => ?_) (fun h13 => ?_)
  ·have q13 := of_decide_eq_true h13
   refine TL.end_ (TX.then_ (TC.condT rfl (TC.skip_ (TX.then_ (TC.seq_ (TC.block (TC.seq_ ?_)))))))
   refine TC.quietQ (by kernel_rfl) (by kernel_rfl) (fun w hw => hw.drawn _) ?_
   refine TQ.val rfl rfl rfl (gives_move rfl rfl) ?_
   refine TQ.val rfl rfl rfl (gives_move rfl rfl) ?_
   have hi18 : k0 < xs.length := by omega
   obtain ⟨x18, hx18⟩ : ∃ x18, xs[k0]? = some x18 := ⟨_, List.getElem?_eq_getElem hi18⟩
   refine TQ.val rfl rfl rfl (gives_at (v := .pointer (some ⟨g, 0 + k0 * 17, none⟩)) rfl rfl rfl (fun w => at_el Tryz.underlying26 prssz47 rfl _ _ k0 (by omega) rfl w)) ?_
   refine TQ.val rfl rfl rfl (gives_loadR (off := 0 + k0 * 17) rfl rfl prsag47 prssz47 (rs_cel.len x18) (fun w1 hw j9 u9 h9 => flat_row rs_cel hw (q := 0) rfl hx18 j9 u9 h9)) ?_
   refine TQ.val rfl rfl rfl (gives_move rfl rfl) ?_
   refine TQ.val rfl rfl rfl (gives_move rfl rfl) ?_
   refine TQ.val rfl rfl rfl (gives_bin rfl rfl rfl (fun w => bin_sub_ (r := ((k0 - 1 : Nat) : Int)) (by simp only [IntKind.wrap_i64]; omega) w)) ?_
   have hi23 : k0 - 1 < xs.length := by omega
   obtain ⟨x23, hx23⟩ : ∃ x23, xs[k0 - 1]? = some x23 := ⟨_, List.getElem?_eq_getElem hi23⟩
   refine TQ.val rfl rfl rfl (gives_at (v := .pointer (some ⟨g, 0 + (k0 - 1) * 17, none⟩)) rfl rfl rfl (fun w => at_el Tryz.underlying26 prssz47 rfl _ _ (k0 - 1) (by omega) rfl w)) ?_
   refine TQ.val rfl rfl rfl (gives_loadR (off := 0 + (k0 - 1) * 17) rfl rfl prsag47 prssz47 (rs_cel.len x23) (fun w1 hw j9 u9 h9 => flat_row rs_cel hw (q := 0) rfl hx23 j9 u9 h9)) ?_
   refine TQ.vsplit rfl rfl rfl (gives_bin2 rfl rfl rfl (fun w => rs_eql x18 x23 _ _ w)) (fun h25 => ?_) (fun h25 => ?_)
   ·have q25 := of_decide_eq_true h25
    have hst := cptG_step hx18 hx23 hk1
    have hK2 : cptG (xs.take (k0 + 1)) = xs.take k0 := by rw [hst, if_pos q25.symm]; exact hK
    refine TQ.fin ?_
    refine TX.then_ (TC.condT rfl (TC.seq_ (TC.region ?_)))
    refine TL.mv ?_
    refine TL.mv ?_
    refine TL.val rfl rfl rfl (gives_tailF (q := k0) rfl rfl rfl rfl Tryz.underlying26 prssz47 (by omega) (by omega)) ?_
    refine TL.as_ ?_
    refine TL.end_ (TX.then_ (TC.seq_ (TC.seq_ (TC.region ?_))))
    refine TL.as_ ?_
    refine TL.end_ (TX.then_ (TC.block ?_))
    refine TC.loop_ (α := {y : Nat × Nat × List Rs // (1 ≤ y.2.1 ∧ y.2.1 ≤ n - k0 ∧ k0 ≤ y.1 ∧ y.1 ≤ k0 + y.2.1 - 1) ∧ y.2.2.length = n ∧ (∀ p, k0 + y.2.1 - 1 ≤ p → y.2.2[p]? = xs[p]?) ∧ y.2.2.take y.1 = cptG (xs.take (k0 + y.2.1))}) (fun y => [(0, .slice (some ⟨g, 0, none⟩) n c), (3, .int .i64 ((y.1.1 : Nat) : Int)), (4, .slice (some ⟨g, k0 * 17, none⟩) (n - k0) (c - k0)), (5, .int .i64 ((y.1.2.1 : Nat) : Int))]) (fun y => Pm ⟨wbut w g, g⟩ ([.row (.slice (some ⟨g, 0, none⟩) n c) 47 17 n (flat Rs.cells y.1.2.2)] ++ oths g w)) (fun y => n - y.1.2.1) (⟨(k0, 1, xs), by dsimp only; omega, hl, fun p _ => rfl, hK2.symm⟩) ⟨rfl, rfl, rfl, rfl, trivial⟩ (fun w1 hw => hw) ?_
    rintro ⟨⟨k, j, ys⟩, ⟨hj1, hj2, hj3, hj4⟩, hly, hI, hT⟩
    dsimp only at hj1 hj2 hj3 hj4 hly hI hT ⊢
    refine TC.seq_ (TC.seq_ (TC.region ?_))
    refine TL.mv ?_
    refine TL.mv ?_
    refine TL.val rfl rfl rfl (gives_len rfl Tryz.underlying26 rfl) ?_
    refine TL.vsplit rfl rfl rfl (gives_bin rfl rfl rfl (fun w => bin_lss w)) (fun h32 => ?_) (fun h32 => ?_)
    ·have q32 := of_decide_eq_true h32
     refine TL.end_ (TX.then_ (TC.condT rfl (TC.skip_ (TX.then_ (TC.seq_ (TC.block (TC.seq_ ?_)))))))
     refine TC.quietQ (by kernel_rfl) (by kernel_rfl) (fun w hw => hw.drawn _) ?_
     refine TQ.val rfl rfl rfl (gives_move rfl rfl) ?_
     refine TQ.val rfl rfl rfl (gives_move rfl rfl) ?_
     have hi37 : (k0 + j) < ys.length := by omega
     obtain ⟨x37, hx37⟩ : ∃ x37, ys[(k0 + j)]? = some x37 := ⟨_, List.getElem?_eq_getElem hi37⟩
     refine TQ.val rfl rfl rfl (gives_at (v := .pointer (some ⟨g, 0 + (k0 + j) * 17, none⟩)) rfl rfl rfl (fun w => at_elT Tryz.underlying26 prssz47 g k0 _ _ j (by omega) rfl w)) ?_
     refine TQ.val rfl rfl rfl (gives_loadR (off := 0 + (k0 + j) * 17) rfl rfl prsag47 prssz47 (rs_cel.len x37) (fun w1 hw j9 u9 h9 => flat_row rs_cel hw (q := 0) rfl hx37 j9 u9 h9)) ?_
     refine TQ.val rfl rfl rfl (gives_move rfl rfl) ?_
     refine TQ.val rfl rfl rfl (gives_move rfl rfl) ?_
     refine TQ.val rfl rfl rfl (gives_bin rfl rfl rfl (fun w => bin_sub_ (r := ((j - 1 : Nat) : Int)) (by simp only [IntKind.wrap_i64]; omega) w)) ?_
     have hi42 : (k0 + (j - 1)) < ys.length := by omega
     obtain ⟨x42, hx42⟩ : ∃ x42, ys[(k0 + (j - 1))]? = some x42 := ⟨_, List.getElem?_eq_getElem hi42⟩
     refine TQ.val rfl rfl rfl (gives_at (v := .pointer (some ⟨g, 0 + (k0 + (j - 1)) * 17, none⟩)) rfl rfl rfl (fun w => at_elT Tryz.underlying26 prssz47 g k0 _ _ (j - 1) (by omega) rfl w)) ?_
     refine TQ.val rfl rfl rfl (gives_loadR (off := 0 + (k0 + (j - 1)) * 17) rfl rfl prsag47 prssz47 (rs_cel.len x42) (fun w1 hw j9 u9 h9 => flat_row rs_cel hw (q := 0) rfl hx42 j9 u9 h9)) ?_
     refine TQ.vsplit rfl rfl rfl (gives_bin2 rfl rfl rfl (fun w => rs_neqd x37 x42 _ _ w)) (fun h44 => ?_) (fun h44 => ?_)
     ·have q44 := of_decide_eq_true h44
      have hst := cptG_step (by rw [← hI _ (by omega)]; exact hx37) (by rw [← hI _ (by omega), show k0 + j - 1 = k0 + (j - 1) by omega]; exact hx42) (by omega : 1 ≤ k0 + j)
      have hc1 : ∀ p, k0 + (j + 1) - 1 ≤ p → (ys.set k x37)[p]? = xs[p]? := fun p hp => by rw [List.getElem?_set_ne (by omega)]; exact hI p (by omega)
      have hc2 : (ys.set k x37).take (k + 1) = cptG (xs.take (k0 + (j + 1))) := by
       rw [List.take_add_one, List.take_set_of_le (Nat.le_refl _), List.getElem?_set_self (by omega), hT, show k0 + (j + 1) = k0 + j + 1 from rfl, hst, if_neg (fun hh => q44 hh.symm)]; rfl
      refine TQ.fin ?_
      refine TX.then_ (TC.condT rfl (TC.seq_ (TC.region ?_)))
      iterate 4 (first | refine TL.mv ?_)
      refine TL.val rfl rfl rfl (gives_at (v := .pointer (some ⟨g, 0 + (k0 + j) * 17, none⟩)) rfl rfl rfl (fun w => at_elT Tryz.underlying26 prssz47 g k0 _ _ j (by omega) rfl w)) ?_
      refine TL.val rfl rfl rfl (gives_loadR (off := 0 + (k0 + j) * 17) rfl rfl prsag47 prssz47 (rs_cel.len x37) (fun w1 hw j9 u9 h9 => flat_row rs_cel hw (q := 0) rfl hx37 j9 u9 h9)) ?_
      have hi51 : k < ys.length := by omega
      obtain ⟨x51, hx51⟩ : ∃ x51, ys[k]? = some x51 := ⟨_, List.getElem?_eq_getElem hi51⟩
      refine TL.val rfl rfl rfl (gives_at (v := .pointer (some ⟨g, 0 + k * 17, none⟩)) rfl rfl rfl (fun w => at_el Tryz.underlying26 prssz47 rfl _ _ k (by omega) rfl w)) ?_
      refine TL.rowset (k := 0) (vs := x37.cells) (xs' := flat Rs.cells (ys.set k x37)) rfl rfl rfl rfl rfl rfl rfl prssz47 (rs_cel.one _) (by rw [flat_len rs_cel]; show 0 + k * 17 + 17 ≤ _; omega) (flat_put rs_cel (q := 0) (y := x37) hx51 (by show 0 + 17 ≤ 17; decide) rfl) ?_
      try dsimp only [List.set_cons_zero, List.set_cons_succ]
      refine TL.end_ (TX.then_ (TC.region ?_))
      refine TL.mv ?_
      refine TL.val rfl rfl rfl (gives_bin rfl rfl rfl (fun w => bin_add_ (r := ((k + 1 : Nat) : Int)) (by simp only [IntKind.wrap_i64]; omega) w)) ?_
      refine TL.as_ ?_
      refine TL.end_ (TX.in_normal (TX.then_ (TC.region ?_)))
      refine TL.mv ?_
      refine TL.val rfl rfl rfl (gives_bin rfl rfl rfl (fun w => bin_add_ (r := ((j + 1 : Nat) : Int)) (by simp only [IntKind.wrap_i64]; omega) w)) ?_
      refine TL.as_ ?_
      refine TL.end_ ?_
      exact TX.round (⟨(k + 1, j + 1, ys.set k x37), by dsimp only; omega, by rw [List.length_set]; exact hly, hc1, hc2⟩) (by show n - (j + 1) < n - j; omega) ⟨rfl, rfl, rfl, rfl, trivial⟩ (fun w1 hw => hw)
     ·have q44 := of_decide_eq_false h44
      have hst := cptG_step (by rw [← hI _ (by omega)]; exact hx37) (by rw [← hI _ (by omega), show k0 + j - 1 = k0 + (j - 1) by omega]; exact hx42) (by omega : 1 ≤ k0 + j)
      have hd1 : ∀ p, k0 + (j + 1) - 1 ≤ p → ys[p]? = xs[p]? := fun p hp => hI p (by omega)
      have hd2 : ys.take k = cptG (xs.take (k0 + (j + 1))) := by rw [hT, show k0 + (j + 1) = k0 + j + 1 from rfl, hst, if_pos (Decidable.not_not.1 q44).symm]
      refine TQ.fin ?_
      refine TX.then_ (TC.condF rfl (TC.skip_ (TX.in_normal (TX.then_ (TC.region ?_)))))
      refine TL.mv ?_
      refine TL.val rfl rfl rfl (gives_bin rfl rfl rfl (fun w => bin_add_ (r := ((j + 1 : Nat) : Int)) (by simp only [IntKind.wrap_i64]; omega) w)) ?_
      refine TL.as_ ?_
      refine TL.end_ ?_
      exact TX.round (⟨(k, j + 1, ys), by dsimp only; omega, hly, hd1, hd2⟩) (by show n - (j + 1) < n - j; omega) ⟨rfl, rfl, rfl, rfl, trivial⟩ (fun w1 hw => hw)
    ·have q32 := of_decide_eq_false h32
     obtain rfl : j = n - k0 := by omega
     have hC : ys.take k = cptG xs := by rw [hT, List.take_of_length_le (by omega)]
     refine TL.end_ (TX.then_ (TC.condF rfl (TC.exit_ (TX.then_exit (TX.then_exit (TX.in_same (TX.then_ (TC.seq_ (TC.region ?_)))))))))
     refine TL.mv ?_
     refine TL.mv ?_
     refine TL.val rfl rfl rfl (gives_tailF (q := k) rfl rfl rfl rfl Tryz.underlying26 prssz47 (by omega) (by omega)) ?_
     refine TL.clearF rs_cel (kk := 0) (q := k) (z := Rs.zero) rfl rfl rfl rfl Tryz.underlying26 pcpzv47 (by omega) (by omega) rfl ?_
     try dsimp only [List.set_cons_zero]
     refine TL.end_ (TX.then_ (TC.seq_ (TC.region ?_)))
     refine TL.mv ?_
     refine TL.mv ?_
     refine TL.headF rs_cel (kk := 0) (hi := k) rfl rfl rfl rfl rfl rfl Tryz.underlying26 prssz47 rfl (by omega) (by omega) ?_
     try dsimp only [List.set_cons_zero]
     refine TL.as_ ?_
     refine TL.end_ (TX.then_ (TC.ret_ (TX.in_ret (TX.then_ret (TX.then_ret (TX.in_ret (TX.then_ret ?_)))))))
     have hfin : (ys.take k ++ List.replicate (n - k) Rs.zero).take k = cptG xs := by rw [List.take_left' (by rw [List.length_take]; omega)]; exact hC
     have hkl : (cptG xs).length = k := by rw [← hC, List.length_take]; omega
     rw [hfin]
     exact ret_tmp Tryz.results88 rfl (fun w1 hw => ⟨by rw [hkl], by rw [hkl]; exact (pm_rowAtG hw (k := 0) rfl), hw.mapEnd (fun q hq => by simp [hq])⟩)
   ·have q25 := of_decide_eq_false h25
    have hst := cptG_step hx18 hx23 hk1
    have hK2 : cptG (xs.take (k0 + 1)) = xs.take (k0 + 1) := by rw [hst, if_neg (fun hh => q25 hh.symm), hK, List.take_add_one, hx18]; rfl
    refine TQ.fin ?_
    refine TX.then_ (TC.condF rfl (TC.skip_ (TX.in_normal (TX.then_ (TC.region ?_)))))
    refine TL.mv ?_
    refine TL.val rfl rfl rfl (gives_bin rfl rfl rfl (fun w => bin_add_ (r := ((k0 + 1 : Nat) : Int)) (by simp only [IntKind.wrap_i64]; omega) w)) ?_
    refine TL.as_ ?_
    refine TL.end_ ?_
    exact TX.round (⟨k0 + 1, by omega, by omega, hK2⟩) (by show n - (k0 + 1) < n - k0; omega) ⟨rfl, rfl, trivial⟩ (fun w1 hw => hw)
  ·have q13 := of_decide_eq_false h13
   obtain rfl : k0 = n := by omega
   have hE : cptG xs = xs := by rw [List.take_of_length_le (by omega)] at hK; exact hK
   refine TL.end_ (TX.then_ (TC.condF rfl (TC.exit_ (TX.then_exit (TX.then_exit (TX.in_same (TX.then_ (TC.seq_ (TC.region ?_)))))))))
   refine TL.mv ?_
   refine TL.as_ ?_
   refine TL.end_ (TX.then_ (TC.ret_ ?_))
   exact ret_tmp Tryz.results88 rfl (fun w1 hw => by rw [hE, hl]; exact ⟨rfl, pm_rowAtG hw (k := 0) rfl, hw.mapEnd (fun q hq => by simp [hq])⟩)
set_option maxHeartbeats 1000000 in
theorem compactRs_nil (w : World) : Calls Tryz.prog 88 #[.slice none 0 0] w fun en w' => en = .returned (.slice none 0 0) ∧ Below w.heap.size w w' := by
 refine begin_ (vs := [.slice none 0 0]) Tryz.func88 rfl rfl rfl ?_ (Pm.start w)
 refine TC.seq_ (TC.region ?_)
 refine TL.as_ ?_
 refine TL.end_ (TX.then_ (TC.seq_ (TC.seq_ (TC.region ?_))))
 refine TL.mv ?_
 refine TL.val rfl rfl rfl (gives_len rfl Tryz.underlying26 rfl) ?_
 refine TL.val rfl rfl rfl (gives_bin rfl rfl rfl (fun w => bin_lss_t (by decide) w)) ?_
 refine TL.end_ (TX.then_ (TC.condT rfl (TC.seq_ (TC.region ?_))))
 refine TL.mv ?_
 refine TL.as_ ?_
 refine TL.end_ (TX.then_ (TC.ret_ (TX.then_ret ?_)))
 exact ret_tmp Tryz.results88 rfl (fun w1 hw => ⟨rfl, hw.bel⟩)
theorem compactRs {b n cap : Nat} {A : Option Addr} {l : List Rs} {w : World} (hr : w.ownsRow b 47 17 (.slice A n cap) n (flat Rs.cells l)) (hl : l.length = n) (hn : n ≤ 1000000) :
  Calls Tryz.prog 88 #[.slice A n cap] w fun en w' => en = .returned (.slice A (cptG l).length cap) ∧ w'.ownsRow b 47 17 (.slice A (cptG l).length cap) (cptG l).length (flat Rs.cells (cptG l)) ∧ w.grownBy w' (Value.ownBlock (.slice A n cap)) := by
 rcases id hr.2 with ⟨hv, h0⟩ | ⟨q, cap', cur, hv, hb, hq, h1, h2, h3, h4⟩
 ·cases hv
  obtain rfl : l = [] := List.eq_nil_of_length_eq_zero (by omega)
  refine (compactRs_nil w).mono fun en w' ⟨h5, h6⟩ => ⟨h5, ⟨rfl, .inl ⟨rfl, rfl⟩⟩, ?_⟩
  exact ⟨h6.os, h6.tape, h6.output, h6.size, fun k hk _ => h6.block k hk⟩
 ·cases hv
  refine (compactRs_g q n cap l w ⟨hr.1, .inr ⟨q, cap, cur, rfl, Nat.le_refl _, hq, h1, h2, h3, h4⟩⟩ hl hn).mono fun en w' ⟨h5, h6, h7⟩ => ⟨h5, ⟨h6.1, ?_⟩, h7⟩
  rcases h6.2 with ⟨e1, _⟩ | ⟨q', c2, cur2, e1, e2, e3⟩
  ·cases e1
  ·cases e1
   exact .inr ⟨q, cap, cur2, rfl, hb, e3⟩
set_option maxHeartbeats 1000000 in
theorem compactTrc_g (g n c : Nat) (xs : List Trc) (w : World) (h : RwG 32 3 w g n c (flat Trc.cells xs)) (hl : xs.length = n) (hn : n ≤ 1000000) :
  Calls Tryz.prog 85 #[.slice (some ⟨g, 0, none⟩) n c] w fun en w' => en = .returned (.slice (some ⟨g, 0, none⟩) (cptG xs).length c) ∧ RwG 32 3 w' g (cptG xs).length c (flat Trc.cells (cptG xs)) ∧ w.grownBy w' (some g) := by
 have hcap := h.obj.2.1
 have hmax := h.obj.2.2
 refine begin_ (vs := [.slice (some ⟨g, 0, none⟩) n c]) (I := Pm ⟨wbut w g, g⟩ (.row (.slice (some ⟨g, 0, none⟩) n c) 32 3 n (flat Trc.cells xs) :: oths g w)) Tryz.func85 rfl rfl rfl ?_ (Pm.rowStartG h)
 refine TC.seq_ (TC.region ?_)
 refine TL.as_ ?_
 refine TL.end_ (TX.then_ (TC.seq_ (TC.seq_ (TC.region ?_))))
 refine TL.mv ?_
 refine TL.val rfl rfl rfl (gives_len rfl Tryz.underlying73 rfl) ?_
 refine TL.vsplit rfl rfl rfl (gives_bin rfl rfl rfl (fun w => bin_lss w)) (fun h8 => ?_) (fun h8 => ?_)
 ·have q8 := of_decide_eq_true h8
  have hE : cptG xs = xs := cptG_short (by omega)
  refine TL.end_ (TX.then_ (TC.condT rfl (TC.seq_ (TC.region ?_))))
  refine TL.mv ?_
  refine TL.as_ ?_
  refine TL.end_ (TX.then_ (TC.ret_ (TX.then_ret ?_)))
  exact ret_tmp Tryz.results85 rfl (fun w1 hw => by rw [hE, hl]; exact ⟨rfl, pm_rowAtG hw (k := 0) rfl, hw.mapEnd (fun q hq => by simp [hq])⟩)
 ·have q8 := of_decide_eq_false h8
  refine TL.end_ (TX.then_ (TC.condF rfl (TC.skip_ (TX.then_ (TC.seq_ (TC.seq_ (TC.region ?_)))))))
  refine TL.as_ ?_
  refine TL.end_ (TX.then_ (TC.block ?_))
  refine TC.loop_ (α := {k : Nat // 1 ≤ k ∧ k ≤ n ∧ cptG (xs.take k) = xs.take k}) (fun y => [(0, .slice (some ⟨g, 0, none⟩) n c), (3, .int .i64 ((y.1 : Nat) : Int))]) (fun y => Pm ⟨wbut w g, g⟩ ([.row (.slice (some ⟨g, 0, none⟩) n c) 32 3 n (flat Trc.cells xs)] ++ oths g w)) (fun y => n - y.1) (⟨1, Nat.le_refl _, by omega, cptG_take1 xs⟩) ⟨rfl, rfl, trivial⟩ (fun w1 hw => hw) ?_
  rintro ⟨k0, hk1, hk2, hK⟩
  try dsimp only
  refine TC.seq_ (TC.seq_ (TC.region ?_))
  refine TL.mv ?_
  refine TL.mv ?_
  refine TL.val rfl rfl rfl (gives_len rfl Tryz.underlying73 rfl) ?_
  refine TL.vsplit rfl rfl rfl (gives_bin rfl rfl rfl (fun w => bin_lss w)) (fun h13 => ?_) (fun h13 => ?_)
  ·have q13 := of_decide_eq_true h13
   refine TL.end_ (TX.then_ (TC.condT rfl (TC.skip_ (TX.then_ (TC.seq_ (TC.block (TC.seq_ ?_)))))))
   refine TC.quietQ (by kernel_rfl) (by kernel_rfl) (fun w hw => hw.drawn _) ?_
   refine TQ.val rfl rfl rfl (gives_move rfl rfl) ?_
   refine TQ.val rfl rfl rfl (gives_move rfl rfl) ?_
   have hi18 : k0 < xs.length := by omega
   obtain ⟨x18, hx18⟩ : ∃ x18, xs[k0]? = some x18 := ⟨_, List.getElem?_eq_getElem hi18⟩
   refine TQ.val rfl rfl rfl (gives_at (v := .pointer (some ⟨g, 0 + k0 * 3, none⟩)) rfl rfl rfl (fun w => at_el Tryz.underlying73 prssz32 rfl _ _ k0 (by omega) rfl w)) ?_
   refine TQ.val rfl rfl rfl (gives_loadR (off := 0 + k0 * 3) rfl rfl pcpag32 prssz32 (trc_cel.len x18) (fun w1 hw j9 u9 h9 => flat_row trc_cel hw (q := 0) rfl hx18 j9 u9 h9)) ?_
   refine TQ.val rfl rfl rfl (gives_move rfl rfl) ?_
   refine TQ.val rfl rfl rfl (gives_move rfl rfl) ?_
   refine TQ.val rfl rfl rfl (gives_bin rfl rfl rfl (fun w => bin_sub_ (r := ((k0 - 1 : Nat) : Int)) (by simp only [IntKind.wrap_i64]; omega) w)) ?_
   have hi23 : k0 - 1 < xs.length := by omega
   obtain ⟨x23, hx23⟩ : ∃ x23, xs[k0 - 1]? = some x23 := ⟨_, List.getElem?_eq_getElem hi23⟩
   refine TQ.val rfl rfl rfl (gives_at (v := .pointer (some ⟨g, 0 + (k0 - 1) * 3, none⟩)) rfl rfl rfl (fun w => at_el Tryz.underlying73 prssz32 rfl _ _ (k0 - 1) (by omega) rfl w)) ?_
   refine TQ.val rfl rfl rfl (gives_loadR (off := 0 + (k0 - 1) * 3) rfl rfl pcpag32 prssz32 (trc_cel.len x23) (fun w1 hw j9 u9 h9 => flat_row trc_cel hw (q := 0) rfl hx23 j9 u9 h9)) ?_
   refine TQ.vsplit rfl rfl rfl (gives_bin2 rfl rfl rfl (fun w => trc_eql x18 x23 _ _ w)) (fun h25 => ?_) (fun h25 => ?_)
   ·have q25 := of_decide_eq_true h25
    have hst := cptG_step hx18 hx23 hk1
    have hK2 : cptG (xs.take (k0 + 1)) = xs.take k0 := by rw [hst, if_pos q25.symm]; exact hK
    refine TQ.fin ?_
    refine TX.then_ (TC.condT rfl (TC.seq_ (TC.region ?_)))
    refine TL.mv ?_
    refine TL.mv ?_
    refine TL.val rfl rfl rfl (gives_tailF (q := k0) rfl rfl rfl rfl Tryz.underlying73 prssz32 (by omega) (by omega)) ?_
    refine TL.as_ ?_
    refine TL.end_ (TX.then_ (TC.seq_ (TC.seq_ (TC.region ?_))))
    refine TL.as_ ?_
    refine TL.end_ (TX.then_ (TC.block ?_))
    refine TC.loop_ (α := {y : Nat × Nat × List Trc // (1 ≤ y.2.1 ∧ y.2.1 ≤ n - k0 ∧ k0 ≤ y.1 ∧ y.1 ≤ k0 + y.2.1 - 1) ∧ y.2.2.length = n ∧ (∀ p, k0 + y.2.1 - 1 ≤ p → y.2.2[p]? = xs[p]?) ∧ y.2.2.take y.1 = cptG (xs.take (k0 + y.2.1))}) (fun y => [(0, .slice (some ⟨g, 0, none⟩) n c), (3, .int .i64 ((y.1.1 : Nat) : Int)), (4, .slice (some ⟨g, k0 * 3, none⟩) (n - k0) (c - k0)), (5, .int .i64 ((y.1.2.1 : Nat) : Int))]) (fun y => Pm ⟨wbut w g, g⟩ ([.row (.slice (some ⟨g, 0, none⟩) n c) 32 3 n (flat Trc.cells y.1.2.2)] ++ oths g w)) (fun y => n - y.1.2.1) (⟨(k0, 1, xs), by dsimp only; omega, hl, fun p _ => rfl, hK2.symm⟩) ⟨rfl, rfl, rfl, rfl, trivial⟩ (fun w1 hw => hw) ?_
    rintro ⟨⟨k, j, ys⟩, ⟨hj1, hj2, hj3, hj4⟩, hly, hI, hT⟩
    dsimp only at hj1 hj2 hj3 hj4 hly hI hT ⊢
    refine TC.seq_ (TC.seq_ (TC.region ?_))
    refine TL.mv ?_
    refine TL.mv ?_
    refine TL.val rfl rfl rfl (gives_len rfl Tryz.underlying73 rfl) ?_
    refine TL.vsplit rfl rfl rfl (gives_bin rfl rfl rfl (fun w => bin_lss w)) (fun h32 => ?_) (fun h32 => ?_)
    ·have q32 := of_decide_eq_true h32
     refine TL.end_ (TX.then_ (TC.condT rfl (TC.skip_ (TX.then_ (TC.seq_ (TC.block (TC.seq_ ?_)))))))
     refine TC.quietQ (by kernel_rfl) (by kernel_rfl) (fun w hw => hw.drawn _) ?_
     refine TQ.val rfl rfl rfl (gives_move rfl rfl) ?_
     refine TQ.val rfl rfl rfl (gives_move rfl rfl) ?_
     have hi37 : (k0 + j) < ys.length := by omega
     obtain ⟨x37, hx37⟩ : ∃ x37, ys[(k0 + j)]? = some x37 := ⟨_, List.getElem?_eq_getElem hi37⟩
     refine TQ.val rfl rfl rfl (gives_at (v := .pointer (some ⟨g, 0 + (k0 + j) * 3, none⟩)) rfl rfl rfl (fun w => at_elT Tryz.underlying73 prssz32 g k0 _ _ j (by omega) rfl w)) ?_
     refine TQ.val rfl rfl rfl (gives_loadR (off := 0 + (k0 + j) * 3) rfl rfl pcpag32 prssz32 (trc_cel.len x37) (fun w1 hw j9 u9 h9 => flat_row trc_cel hw (q := 0) rfl hx37 j9 u9 h9)) ?_
     refine TQ.val rfl rfl rfl (gives_move rfl rfl) ?_
     refine TQ.val rfl rfl rfl (gives_move rfl rfl) ?_
     refine TQ.val rfl rfl rfl (gives_bin rfl rfl rfl (fun w => bin_sub_ (r := ((j - 1 : Nat) : Int)) (by simp only [IntKind.wrap_i64]; omega) w)) ?_
     have hi42 : (k0 + (j - 1)) < ys.length := by omega
     obtain ⟨x42, hx42⟩ : ∃ x42, ys[(k0 + (j - 1))]? = some x42 := ⟨_, List.getElem?_eq_getElem hi42⟩
     refine TQ.val rfl rfl rfl (gives_at (v := .pointer (some ⟨g, 0 + (k0 + (j - 1)) * 3, none⟩)) rfl rfl rfl (fun w => at_elT Tryz.underlying73 prssz32 g k0 _ _ (j - 1) (by omega) rfl w)) ?_
     refine TQ.val rfl rfl rfl (gives_loadR (off := 0 + (k0 + (j - 1)) * 3) rfl rfl pcpag32 prssz32 (trc_cel.len x42) (fun w1 hw j9 u9 h9 => flat_row trc_cel hw (q := 0) rfl hx42 j9 u9 h9)) ?_
     refine TQ.vsplit rfl rfl rfl (gives_bin2 rfl rfl rfl (fun w => trc_neqd x37 x42 _ _ w)) (fun h44 => ?_) (fun h44 => ?_)
     ·have q44 := of_decide_eq_true h44
      have hst := cptG_step (by rw [← hI _ (by omega)]; exact hx37) (by rw [← hI _ (by omega), show k0 + j - 1 = k0 + (j - 1) by omega]; exact hx42) (by omega : 1 ≤ k0 + j)
      have hc1 : ∀ p, k0 + (j + 1) - 1 ≤ p → (ys.set k x37)[p]? = xs[p]? := fun p hp => by rw [List.getElem?_set_ne (by omega)]; exact hI p (by omega)
      have hc2 : (ys.set k x37).take (k + 1) = cptG (xs.take (k0 + (j + 1))) := by
       rw [List.take_add_one, List.take_set_of_le (Nat.le_refl _), List.getElem?_set_self (by omega), hT, show k0 + (j + 1) = k0 + j + 1 from rfl, hst, if_neg (fun hh => q44 hh.symm)]; rfl
      refine TQ.fin ?_
      refine TX.then_ (TC.condT rfl (TC.seq_ (TC.region ?_)))
      iterate 4 (first | refine TL.mv ?_)
      refine TL.val rfl rfl rfl (gives_at (v := .pointer (some ⟨g, 0 + (k0 + j) * 3, none⟩)) rfl rfl rfl (fun w => at_elT Tryz.underlying73 prssz32 g k0 _ _ j (by omega) rfl w)) ?_
      refine TL.val rfl rfl rfl (gives_loadR (off := 0 + (k0 + j) * 3) rfl rfl pcpag32 prssz32 (trc_cel.len x37) (fun w1 hw j9 u9 h9 => flat_row trc_cel hw (q := 0) rfl hx37 j9 u9 h9)) ?_
      have hi51 : k < ys.length := by omega
      obtain ⟨x51, hx51⟩ : ∃ x51, ys[k]? = some x51 := ⟨_, List.getElem?_eq_getElem hi51⟩
      refine TL.val rfl rfl rfl (gives_at (v := .pointer (some ⟨g, 0 + k * 3, none⟩)) rfl rfl rfl (fun w => at_el Tryz.underlying73 prssz32 rfl _ _ k (by omega) rfl w)) ?_
      refine TL.rowset (k := 0) (vs := x37.cells) (xs' := flat Trc.cells (ys.set k x37)) rfl rfl rfl rfl rfl rfl rfl prssz32 (trc_cel.one _) (by rw [flat_len trc_cel]; show 0 + k * 3 + 3 ≤ _; omega) (flat_put trc_cel (q := 0) (y := x37) hx51 (by show 0 + 3 ≤ 3; decide) rfl) ?_
      try dsimp only [List.set_cons_zero, List.set_cons_succ]
      refine TL.end_ (TX.then_ (TC.region ?_))
      refine TL.mv ?_
      refine TL.val rfl rfl rfl (gives_bin rfl rfl rfl (fun w => bin_add_ (r := ((k + 1 : Nat) : Int)) (by simp only [IntKind.wrap_i64]; omega) w)) ?_
      refine TL.as_ ?_
      refine TL.end_ (TX.in_normal (TX.then_ (TC.region ?_)))
      refine TL.mv ?_
      refine TL.val rfl rfl rfl (gives_bin rfl rfl rfl (fun w => bin_add_ (r := ((j + 1 : Nat) : Int)) (by simp only [IntKind.wrap_i64]; omega) w)) ?_
      refine TL.as_ ?_
      refine TL.end_ ?_
      exact TX.round (⟨(k + 1, j + 1, ys.set k x37), by dsimp only; omega, by rw [List.length_set]; exact hly, hc1, hc2⟩) (by show n - (j + 1) < n - j; omega) ⟨rfl, rfl, rfl, rfl, trivial⟩ (fun w1 hw => hw)
     ·have q44 := of_decide_eq_false h44
      have hst := cptG_step (by rw [← hI _ (by omega)]; exact hx37) (by rw [← hI _ (by omega), show k0 + j - 1 = k0 + (j - 1) by omega]; exact hx42) (by omega : 1 ≤ k0 + j)
      have hd1 : ∀ p, k0 + (j + 1) - 1 ≤ p → ys[p]? = xs[p]? := fun p hp => hI p (by omega)
      have hd2 : ys.take k = cptG (xs.take (k0 + (j + 1))) := by rw [hT, show k0 + (j + 1) = k0 + j + 1 from rfl, hst, if_pos (Decidable.not_not.1 q44).symm]
      refine TQ.fin ?_
      refine TX.then_ (TC.condF rfl (TC.skip_ (TX.in_normal (TX.then_ (TC.region ?_)))))
      refine TL.mv ?_
      refine TL.val rfl rfl rfl (gives_bin rfl rfl rfl (fun w => bin_add_ (r := ((j + 1 : Nat) : Int)) (by simp only [IntKind.wrap_i64]; omega) w)) ?_
      refine TL.as_ ?_
      refine TL.end_ ?_
      exact TX.round (⟨(k, j + 1, ys), by dsimp only; omega, hly, hd1, hd2⟩) (by show n - (j + 1) < n - j; omega) ⟨rfl, rfl, rfl, rfl, trivial⟩ (fun w1 hw => hw)
    ·have q32 := of_decide_eq_false h32
     obtain rfl : j = n - k0 := by omega
     have hC : ys.take k = cptG xs := by rw [hT, List.take_of_length_le (by omega)]
     refine TL.end_ (TX.then_ (TC.condF rfl (TC.exit_ (TX.then_exit (TX.then_exit (TX.in_same (TX.then_ (TC.seq_ (TC.region ?_)))))))))
     refine TL.mv ?_
     refine TL.mv ?_
     refine TL.val rfl rfl rfl (gives_tailF (q := k) rfl rfl rfl rfl Tryz.underlying73 prssz32 (by omega) (by omega)) ?_
     refine TL.clearF trc_cel (kk := 0) (q := k) (z := Trc.zero) rfl rfl rfl rfl Tryz.underlying73 prszv32 (by omega) (by omega) rfl ?_
     try dsimp only [List.set_cons_zero]
     refine TL.end_ (TX.then_ (TC.seq_ (TC.region ?_)))
     refine TL.mv ?_
     refine TL.mv ?_
     refine TL.headF trc_cel (kk := 0) (hi := k) rfl rfl rfl rfl rfl rfl Tryz.underlying73 prssz32 rfl (by omega) (by omega) ?_
     try dsimp only [List.set_cons_zero]
     refine TL.as_ ?_
     refine TL.end_ (TX.then_ (TC.ret_ (TX.in_ret (TX.then_ret (TX.then_ret (TX.in_ret (TX.then_ret ?_)))))))
     have hfin : (ys.take k ++ List.replicate (n - k) Trc.zero).take k = cptG xs := by rw [List.take_left' (by rw [List.length_take]; omega)]; exact hC
     have hkl : (cptG xs).length = k := by rw [← hC, List.length_take]; omega
     rw [hfin]
     exact ret_tmp Tryz.results85 rfl (fun w1 hw => ⟨by rw [hkl], by rw [hkl]; exact (pm_rowAtG hw (k := 0) rfl), hw.mapEnd (fun q hq => by simp [hq])⟩)
   ·have q25 := of_decide_eq_false h25
    have hst := cptG_step hx18 hx23 hk1
    have hK2 : cptG (xs.take (k0 + 1)) = xs.take (k0 + 1) := by rw [hst, if_neg (fun hh => q25 hh.symm), hK, List.take_add_one, hx18]; rfl
    refine TQ.fin ?_
    refine TX.then_ (TC.condF rfl (TC.skip_ (TX.in_normal (TX.then_ (TC.region ?_)))))
    refine TL.mv ?_
    refine TL.val rfl rfl rfl (gives_bin rfl rfl rfl (fun w => bin_add_ (r := ((k0 + 1 : Nat) : Int)) (by simp only [IntKind.wrap_i64]; omega) w)) ?_
    refine TL.as_ ?_
    refine TL.end_ ?_
    exact TX.round (⟨k0 + 1, by omega, by omega, hK2⟩) (by show n - (k0 + 1) < n - k0; omega) ⟨rfl, rfl, trivial⟩ (fun w1 hw => hw)
  ·have q13 := of_decide_eq_false h13
   obtain rfl : k0 = n := by omega
   have hE : cptG xs = xs := by rw [List.take_of_length_le (by omega)] at hK; exact hK
   refine TL.end_ (TX.then_ (TC.condF rfl (TC.exit_ (TX.then_exit (TX.then_exit (TX.in_same (TX.then_ (TC.seq_ (TC.region ?_)))))))))
   refine TL.mv ?_
   refine TL.as_ ?_
   refine TL.end_ (TX.then_ (TC.ret_ ?_))
   exact ret_tmp Tryz.results85 rfl (fun w1 hw => by rw [hE, hl]; exact ⟨rfl, pm_rowAtG hw (k := 0) rfl, hw.mapEnd (fun q hq => by simp [hq])⟩)
set_option maxHeartbeats 1000000 in
theorem compactTrc_nil (w : World) : Calls Tryz.prog 85 #[.slice none 0 0] w fun en w' => en = .returned (.slice none 0 0) ∧ Below w.heap.size w w' := by
 refine begin_ (vs := [.slice none 0 0]) Tryz.func85 rfl rfl rfl ?_ (Pm.start w)
 refine TC.seq_ (TC.region ?_)
 refine TL.as_ ?_
 refine TL.end_ (TX.then_ (TC.seq_ (TC.seq_ (TC.region ?_))))
 refine TL.mv ?_
 refine TL.val rfl rfl rfl (gives_len rfl Tryz.underlying73 rfl) ?_
 refine TL.val rfl rfl rfl (gives_bin rfl rfl rfl (fun w => bin_lss_t (by decide) w)) ?_
 refine TL.end_ (TX.then_ (TC.condT rfl (TC.seq_ (TC.region ?_))))
 refine TL.mv ?_
 refine TL.as_ ?_
 refine TL.end_ (TX.then_ (TC.ret_ (TX.then_ret ?_)))
 exact ret_tmp Tryz.results85 rfl (fun w1 hw => ⟨rfl, hw.bel⟩)
theorem compactTrc {b n cap : Nat} {A : Option Addr} {l : List Trc} {w : World} (hr : w.ownsRow b 32 3 (.slice A n cap) n (flat Trc.cells l)) (hl : l.length = n) (hn : n ≤ 1000000) :
  Calls Tryz.prog 85 #[.slice A n cap] w fun en w' => en = .returned (.slice A (cptG l).length cap) ∧ w'.ownsRow b 32 3 (.slice A (cptG l).length cap) (cptG l).length (flat Trc.cells (cptG l)) ∧ w.grownBy w' (Value.ownBlock (.slice A n cap)) := by
 rcases id hr.2 with ⟨hv, h0⟩ | ⟨q, cap', cur, hv, hb, hq, h1, h2, h3, h4⟩
 ·cases hv
  obtain rfl : l = [] := List.eq_nil_of_length_eq_zero (by omega)
  refine (compactTrc_nil w).mono fun en w' ⟨h5, h6⟩ => ⟨h5, ⟨rfl, .inl ⟨rfl, rfl⟩⟩, ?_⟩
  exact ⟨h6.os, h6.tape, h6.output, h6.size, fun k hk _ => h6.block k hk⟩
 ·cases hv
  refine (compactTrc_g q n cap l w ⟨hr.1, .inr ⟨q, cap, cur, rfl, Nat.le_refl _, hq, h1, h2, h3, h4⟩⟩ hl hn).mono fun en w' ⟨h5, h6, h7⟩ => ⟨h5, ⟨h6.1, ?_⟩, h7⟩
  rcases h6.2 with ⟨e1, _⟩ | ⟨q', c2, cur2, e1, e2, e3⟩
  ·cases e1
  ·cases e1
   exact .inr ⟨q, cap, cur2, rfl, hb, e3⟩
set_option maxHeartbeats 1000000 in
theorem compactWre_g (g n c : Nat) (xs : List Wre) (w : World) (h : RwG 54 2 w g n c (flat Wre.cells xs)) (hl : xs.length = n) (hn : n ≤ 1000000) :
  Calls Tryz.prog 73 #[.slice (some ⟨g, 0, none⟩) n c] w fun en w' => en = .returned (.slice (some ⟨g, 0, none⟩) (cptG xs).length c) ∧ RwG 54 2 w' g (cptG xs).length c (flat Wre.cells (cptG xs)) ∧ w.grownBy w' (some g) := by
 have hcap := h.obj.2.1
 have hmax := h.obj.2.2
 refine begin_ (vs := [.slice (some ⟨g, 0, none⟩) n c]) (I := Pm ⟨wbut w g, g⟩ (.row (.slice (some ⟨g, 0, none⟩) n c) 54 2 n (flat Wre.cells xs) :: oths g w)) Tryz.func73 rfl rfl rfl ?_ (Pm.rowStartG h)
 refine TC.seq_ (TC.region ?_)
 refine TL.as_ ?_
 refine TL.end_ (TX.then_ (TC.seq_ (TC.seq_ (TC.region ?_))))
 refine TL.mv ?_
 refine TL.val rfl rfl rfl (gives_len rfl Tryz.underlying51 rfl) ?_
 refine TL.vsplit rfl rfl rfl (gives_bin rfl rfl rfl (fun w => bin_lss w)) (fun h8 => ?_) (fun h8 => ?_)
 ·have q8 := of_decide_eq_true h8
  have hE : cptG xs = xs := cptG_short (by omega)
  refine TL.end_ (TX.then_ (TC.condT rfl (TC.seq_ (TC.region ?_))))
  refine TL.mv ?_
  refine TL.as_ ?_
  refine TL.end_ (TX.then_ (TC.ret_ (TX.then_ret ?_)))
  exact ret_tmp Tryz.results73 rfl (fun w1 hw => by rw [hE, hl]; exact ⟨rfl, pm_rowAtG hw (k := 0) rfl, hw.mapEnd (fun q hq => by simp [hq])⟩)
 ·have q8 := of_decide_eq_false h8
  refine TL.end_ (TX.then_ (TC.condF rfl (TC.skip_ (TX.then_ (TC.seq_ (TC.seq_ (TC.region ?_)))))))
  refine TL.as_ ?_
  refine TL.end_ (TX.then_ (TC.block ?_))
  refine TC.loop_ (α := {k : Nat // 1 ≤ k ∧ k ≤ n ∧ cptG (xs.take k) = xs.take k}) (fun y => [(0, .slice (some ⟨g, 0, none⟩) n c), (3, .int .i64 ((y.1 : Nat) : Int))]) (fun y => Pm ⟨wbut w g, g⟩ ([.row (.slice (some ⟨g, 0, none⟩) n c) 54 2 n (flat Wre.cells xs)] ++ oths g w)) (fun y => n - y.1) (⟨1, Nat.le_refl _, by omega, cptG_take1 xs⟩) ⟨rfl, rfl, trivial⟩ (fun w1 hw => hw) ?_
  rintro ⟨k0, hk1, hk2, hK⟩
  try dsimp only
  refine TC.seq_ (TC.seq_ (TC.region ?_))
  refine TL.mv ?_
  refine TL.mv ?_
  refine TL.val rfl rfl rfl (gives_len rfl Tryz.underlying51 rfl) ?_
  refine TL.vsplit rfl rfl rfl (gives_bin rfl rfl rfl (fun w => bin_lss w)) (fun h13 => ?_) (fun h13 => ?_)
  ·have q13 := of_decide_eq_true h13
   refine TL.end_ (TX.then_ (TC.condT rfl (TC.skip_ (TX.then_ (TC.seq_ (TC.block (TC.seq_ ?_)))))))
   refine TC.quietQ (by kernel_rfl) (by kernel_rfl) (fun w hw => hw.drawn _) ?_
   refine TQ.val rfl rfl rfl (gives_move rfl rfl) ?_
   refine TQ.val rfl rfl rfl (gives_move rfl rfl) ?_
   have hi18 : k0 < xs.length := by omega
   obtain ⟨x18, hx18⟩ : ∃ x18, xs[k0]? = some x18 := ⟨_, List.getElem?_eq_getElem hi18⟩
   refine TQ.val rfl rfl rfl (gives_at (v := .pointer (some ⟨g, 0 + k0 * 2, none⟩)) rfl rfl rfl (fun w => at_el Tryz.underlying51 pcpsz54 rfl _ _ k0 (by omega) rfl w)) ?_
   refine TQ.val rfl rfl rfl (gives_loadR (off := 0 + k0 * 2) rfl rfl pcpag54 pcpsz54 (wre_cel.len x18) (fun w1 hw j9 u9 h9 => flat_row wre_cel hw (q := 0) rfl hx18 j9 u9 h9)) ?_
   refine TQ.val rfl rfl rfl (gives_move rfl rfl) ?_
   refine TQ.val rfl rfl rfl (gives_move rfl rfl) ?_
   refine TQ.val rfl rfl rfl (gives_bin rfl rfl rfl (fun w => bin_sub_ (r := ((k0 - 1 : Nat) : Int)) (by simp only [IntKind.wrap_i64]; omega) w)) ?_
   have hi23 : k0 - 1 < xs.length := by omega
   obtain ⟨x23, hx23⟩ : ∃ x23, xs[k0 - 1]? = some x23 := ⟨_, List.getElem?_eq_getElem hi23⟩
   refine TQ.val rfl rfl rfl (gives_at (v := .pointer (some ⟨g, 0 + (k0 - 1) * 2, none⟩)) rfl rfl rfl (fun w => at_el Tryz.underlying51 pcpsz54 rfl _ _ (k0 - 1) (by omega) rfl w)) ?_
   refine TQ.val rfl rfl rfl (gives_loadR (off := 0 + (k0 - 1) * 2) rfl rfl pcpag54 pcpsz54 (wre_cel.len x23) (fun w1 hw j9 u9 h9 => flat_row wre_cel hw (q := 0) rfl hx23 j9 u9 h9)) ?_
   refine TQ.vsplit rfl rfl rfl (gives_bin2 rfl rfl rfl (fun w => wre_eql x18 x23 _ _ w)) (fun h25 => ?_) (fun h25 => ?_)
   ·have q25 := of_decide_eq_true h25
    have hst := cptG_step hx18 hx23 hk1
    have hK2 : cptG (xs.take (k0 + 1)) = xs.take k0 := by rw [hst, if_pos q25.symm]; exact hK
    refine TQ.fin ?_
    refine TX.then_ (TC.condT rfl (TC.seq_ (TC.region ?_)))
    refine TL.mv ?_
    refine TL.mv ?_
    refine TL.val rfl rfl rfl (gives_tailF (q := k0) rfl rfl rfl rfl Tryz.underlying51 pcpsz54 (by omega) (by omega)) ?_
    refine TL.as_ ?_
    refine TL.end_ (TX.then_ (TC.seq_ (TC.seq_ (TC.region ?_))))
    refine TL.as_ ?_
    refine TL.end_ (TX.then_ (TC.block ?_))
    refine TC.loop_ (α := {y : Nat × Nat × List Wre // (1 ≤ y.2.1 ∧ y.2.1 ≤ n - k0 ∧ k0 ≤ y.1 ∧ y.1 ≤ k0 + y.2.1 - 1) ∧ y.2.2.length = n ∧ (∀ p, k0 + y.2.1 - 1 ≤ p → y.2.2[p]? = xs[p]?) ∧ y.2.2.take y.1 = cptG (xs.take (k0 + y.2.1))}) (fun y => [(0, .slice (some ⟨g, 0, none⟩) n c), (3, .int .i64 ((y.1.1 : Nat) : Int)), (4, .slice (some ⟨g, k0 * 2, none⟩) (n - k0) (c - k0)), (5, .int .i64 ((y.1.2.1 : Nat) : Int))]) (fun y => Pm ⟨wbut w g, g⟩ ([.row (.slice (some ⟨g, 0, none⟩) n c) 54 2 n (flat Wre.cells y.1.2.2)] ++ oths g w)) (fun y => n - y.1.2.1) (⟨(k0, 1, xs), by dsimp only; omega, hl, fun p _ => rfl, hK2.symm⟩) ⟨rfl, rfl, rfl, rfl, trivial⟩ (fun w1 hw => hw) ?_
    rintro ⟨⟨k, j, ys⟩, ⟨hj1, hj2, hj3, hj4⟩, hly, hI, hT⟩
    dsimp only at hj1 hj2 hj3 hj4 hly hI hT ⊢
    refine TC.seq_ (TC.seq_ (TC.region ?_))
    refine TL.mv ?_
    refine TL.mv ?_
    refine TL.val rfl rfl rfl (gives_len rfl Tryz.underlying51 rfl) ?_
    refine TL.vsplit rfl rfl rfl (gives_bin rfl rfl rfl (fun w => bin_lss w)) (fun h32 => ?_) (fun h32 => ?_)
    ·have q32 := of_decide_eq_true h32
     refine TL.end_ (TX.then_ (TC.condT rfl (TC.skip_ (TX.then_ (TC.seq_ (TC.block (TC.seq_ ?_)))))))
     refine TC.quietQ (by kernel_rfl) (by kernel_rfl) (fun w hw => hw.drawn _) ?_
     refine TQ.val rfl rfl rfl (gives_move rfl rfl) ?_
     refine TQ.val rfl rfl rfl (gives_move rfl rfl) ?_
     have hi37 : (k0 + j) < ys.length := by omega
     obtain ⟨x37, hx37⟩ : ∃ x37, ys[(k0 + j)]? = some x37 := ⟨_, List.getElem?_eq_getElem hi37⟩
     refine TQ.val rfl rfl rfl (gives_at (v := .pointer (some ⟨g, 0 + (k0 + j) * 2, none⟩)) rfl rfl rfl (fun w => at_elT Tryz.underlying51 pcpsz54 g k0 _ _ j (by omega) rfl w)) ?_
     refine TQ.val rfl rfl rfl (gives_loadR (off := 0 + (k0 + j) * 2) rfl rfl pcpag54 pcpsz54 (wre_cel.len x37) (fun w1 hw j9 u9 h9 => flat_row wre_cel hw (q := 0) rfl hx37 j9 u9 h9)) ?_
     refine TQ.val rfl rfl rfl (gives_move rfl rfl) ?_
     refine TQ.val rfl rfl rfl (gives_move rfl rfl) ?_
     refine TQ.val rfl rfl rfl (gives_bin rfl rfl rfl (fun w => bin_sub_ (r := ((j - 1 : Nat) : Int)) (by simp only [IntKind.wrap_i64]; omega) w)) ?_
     have hi42 : (k0 + (j - 1)) < ys.length := by omega
     obtain ⟨x42, hx42⟩ : ∃ x42, ys[(k0 + (j - 1))]? = some x42 := ⟨_, List.getElem?_eq_getElem hi42⟩
     refine TQ.val rfl rfl rfl (gives_at (v := .pointer (some ⟨g, 0 + (k0 + (j - 1)) * 2, none⟩)) rfl rfl rfl (fun w => at_elT Tryz.underlying51 pcpsz54 g k0 _ _ (j - 1) (by omega) rfl w)) ?_
     refine TQ.val rfl rfl rfl (gives_loadR (off := 0 + (k0 + (j - 1)) * 2) rfl rfl pcpag54 pcpsz54 (wre_cel.len x42) (fun w1 hw j9 u9 h9 => flat_row wre_cel hw (q := 0) rfl hx42 j9 u9 h9)) ?_
     refine TQ.vsplit rfl rfl rfl (gives_bin2 rfl rfl rfl (fun w => wre_neqd x37 x42 _ _ w)) (fun h44 => ?_) (fun h44 => ?_)
     ·have q44 := of_decide_eq_true h44
      have hst := cptG_step (by rw [← hI _ (by omega)]; exact hx37) (by rw [← hI _ (by omega), show k0 + j - 1 = k0 + (j - 1) by omega]; exact hx42) (by omega : 1 ≤ k0 + j)
      have hc1 : ∀ p, k0 + (j + 1) - 1 ≤ p → (ys.set k x37)[p]? = xs[p]? := fun p hp => by rw [List.getElem?_set_ne (by omega)]; exact hI p (by omega)
      have hc2 : (ys.set k x37).take (k + 1) = cptG (xs.take (k0 + (j + 1))) := by
       rw [List.take_add_one, List.take_set_of_le (Nat.le_refl _), List.getElem?_set_self (by omega), hT, show k0 + (j + 1) = k0 + j + 1 from rfl, hst, if_neg (fun hh => q44 hh.symm)]; rfl
      refine TQ.fin ?_
      refine TX.then_ (TC.condT rfl (TC.seq_ (TC.region ?_)))
      iterate 4 (first | refine TL.mv ?_)
      refine TL.val rfl rfl rfl (gives_at (v := .pointer (some ⟨g, 0 + (k0 + j) * 2, none⟩)) rfl rfl rfl (fun w => at_elT Tryz.underlying51 pcpsz54 g k0 _ _ j (by omega) rfl w)) ?_
      refine TL.val rfl rfl rfl (gives_loadR (off := 0 + (k0 + j) * 2) rfl rfl pcpag54 pcpsz54 (wre_cel.len x37) (fun w1 hw j9 u9 h9 => flat_row wre_cel hw (q := 0) rfl hx37 j9 u9 h9)) ?_
      have hi51 : k < ys.length := by omega
      obtain ⟨x51, hx51⟩ : ∃ x51, ys[k]? = some x51 := ⟨_, List.getElem?_eq_getElem hi51⟩
      refine TL.val rfl rfl rfl (gives_at (v := .pointer (some ⟨g, 0 + k * 2, none⟩)) rfl rfl rfl (fun w => at_el Tryz.underlying51 pcpsz54 rfl _ _ k (by omega) rfl w)) ?_
      refine TL.rowset (k := 0) (vs := x37.cells) (xs' := flat Wre.cells (ys.set k x37)) rfl rfl rfl rfl rfl rfl rfl pcpsz54 (wre_cel.one _) (by rw [flat_len wre_cel]; show 0 + k * 2 + 2 ≤ _; omega) (flat_put wre_cel (q := 0) (y := x37) hx51 (by show 0 + 2 ≤ 2; decide) rfl) ?_
      try dsimp only [List.set_cons_zero, List.set_cons_succ]
      refine TL.end_ (TX.then_ (TC.region ?_))
      refine TL.mv ?_
      refine TL.val rfl rfl rfl (gives_bin rfl rfl rfl (fun w => bin_add_ (r := ((k + 1 : Nat) : Int)) (by simp only [IntKind.wrap_i64]; omega) w)) ?_
      refine TL.as_ ?_
      refine TL.end_ (TX.in_normal (TX.then_ (TC.region ?_)))
      refine TL.mv ?_
      refine TL.val rfl rfl rfl (gives_bin rfl rfl rfl (fun w => bin_add_ (r := ((j + 1 : Nat) : Int)) (by simp only [IntKind.wrap_i64]; omega) w)) ?_
      refine TL.as_ ?_
      refine TL.end_ ?_
      exact TX.round (⟨(k + 1, j + 1, ys.set k x37), by dsimp only; omega, by rw [List.length_set]; exact hly, hc1, hc2⟩) (by show n - (j + 1) < n - j; omega) ⟨rfl, rfl, rfl, rfl, trivial⟩ (fun w1 hw => hw)
     ·have q44 := of_decide_eq_false h44
      have hst := cptG_step (by rw [← hI _ (by omega)]; exact hx37) (by rw [← hI _ (by omega), show k0 + j - 1 = k0 + (j - 1) by omega]; exact hx42) (by omega : 1 ≤ k0 + j)
      have hd1 : ∀ p, k0 + (j + 1) - 1 ≤ p → ys[p]? = xs[p]? := fun p hp => hI p (by omega)
      have hd2 : ys.take k = cptG (xs.take (k0 + (j + 1))) := by rw [hT, show k0 + (j + 1) = k0 + j + 1 from rfl, hst, if_pos (Decidable.not_not.1 q44).symm]
      refine TQ.fin ?_
      refine TX.then_ (TC.condF rfl (TC.skip_ (TX.in_normal (TX.then_ (TC.region ?_)))))
      refine TL.mv ?_
      refine TL.val rfl rfl rfl (gives_bin rfl rfl rfl (fun w => bin_add_ (r := ((j + 1 : Nat) : Int)) (by simp only [IntKind.wrap_i64]; omega) w)) ?_
      refine TL.as_ ?_
      refine TL.end_ ?_
      exact TX.round (⟨(k, j + 1, ys), by dsimp only; omega, hly, hd1, hd2⟩) (by show n - (j + 1) < n - j; omega) ⟨rfl, rfl, rfl, rfl, trivial⟩ (fun w1 hw => hw)
    ·have q32 := of_decide_eq_false h32
     obtain rfl : j = n - k0 := by omega
     have hC : ys.take k = cptG xs := by rw [hT, List.take_of_length_le (by omega)]
     refine TL.end_ (TX.then_ (TC.condF rfl (TC.exit_ (TX.then_exit (TX.then_exit (TX.in_same (TX.then_ (TC.seq_ (TC.region ?_)))))))))
     refine TL.mv ?_
     refine TL.mv ?_
     refine TL.val rfl rfl rfl (gives_tailF (q := k) rfl rfl rfl rfl Tryz.underlying51 pcpsz54 (by omega) (by omega)) ?_
     refine TL.clearF wre_cel (kk := 0) (q := k) (z := Wre.zero) rfl rfl rfl rfl Tryz.underlying51 pcpzv54 (by omega) (by omega) rfl ?_
     try dsimp only [List.set_cons_zero]
     refine TL.end_ (TX.then_ (TC.seq_ (TC.region ?_)))
     refine TL.mv ?_
     refine TL.mv ?_
     refine TL.headF wre_cel (kk := 0) (hi := k) rfl rfl rfl rfl rfl rfl Tryz.underlying51 pcpsz54 rfl (by omega) (by omega) ?_
     try dsimp only [List.set_cons_zero]
     refine TL.as_ ?_
     refine TL.end_ (TX.then_ (TC.ret_ (TX.in_ret (TX.then_ret (TX.then_ret (TX.in_ret (TX.then_ret ?_)))))))
     have hfin : (ys.take k ++ List.replicate (n - k) Wre.zero).take k = cptG xs := by rw [List.take_left' (by rw [List.length_take]; omega)]; exact hC
     have hkl : (cptG xs).length = k := by rw [← hC, List.length_take]; omega
     rw [hfin]
     exact ret_tmp Tryz.results73 rfl (fun w1 hw => ⟨by rw [hkl], by rw [hkl]; exact (pm_rowAtG hw (k := 0) rfl), hw.mapEnd (fun q hq => by simp [hq])⟩)
   ·have q25 := of_decide_eq_false h25
    have hst := cptG_step hx18 hx23 hk1
    have hK2 : cptG (xs.take (k0 + 1)) = xs.take (k0 + 1) := by rw [hst, if_neg (fun hh => q25 hh.symm), hK, List.take_add_one, hx18]; rfl
    refine TQ.fin ?_
    refine TX.then_ (TC.condF rfl (TC.skip_ (TX.in_normal (TX.then_ (TC.region ?_)))))
    refine TL.mv ?_
    refine TL.val rfl rfl rfl (gives_bin rfl rfl rfl (fun w => bin_add_ (r := ((k0 + 1 : Nat) : Int)) (by simp only [IntKind.wrap_i64]; omega) w)) ?_
    refine TL.as_ ?_
    refine TL.end_ ?_
    exact TX.round (⟨k0 + 1, by omega, by omega, hK2⟩) (by show n - (k0 + 1) < n - k0; omega) ⟨rfl, rfl, trivial⟩ (fun w1 hw => hw)
  ·have q13 := of_decide_eq_false h13
   obtain rfl : k0 = n := by omega
   have hE : cptG xs = xs := by rw [List.take_of_length_le (by omega)] at hK; exact hK
   refine TL.end_ (TX.then_ (TC.condF rfl (TC.exit_ (TX.then_exit (TX.then_exit (TX.in_same (TX.then_ (TC.seq_ (TC.region ?_)))))))))
   refine TL.mv ?_
   refine TL.as_ ?_
   refine TL.end_ (TX.then_ (TC.ret_ ?_))
   exact ret_tmp Tryz.results73 rfl (fun w1 hw => by rw [hE, hl]; exact ⟨rfl, pm_rowAtG hw (k := 0) rfl, hw.mapEnd (fun q hq => by simp [hq])⟩)
set_option maxHeartbeats 1000000 in
theorem compactWre_nil (w : World) : Calls Tryz.prog 73 #[.slice none 0 0] w fun en w' => en = .returned (.slice none 0 0) ∧ Below w.heap.size w w' := by
 refine begin_ (vs := [.slice none 0 0]) Tryz.func73 rfl rfl rfl ?_ (Pm.start w)
 refine TC.seq_ (TC.region ?_)
 refine TL.as_ ?_
 refine TL.end_ (TX.then_ (TC.seq_ (TC.seq_ (TC.region ?_))))
 refine TL.mv ?_
 refine TL.val rfl rfl rfl (gives_len rfl Tryz.underlying51 rfl) ?_
 refine TL.val rfl rfl rfl (gives_bin rfl rfl rfl (fun w => bin_lss_t (by decide) w)) ?_
 refine TL.end_ (TX.then_ (TC.condT rfl (TC.seq_ (TC.region ?_))))
 refine TL.mv ?_
 refine TL.as_ ?_
 refine TL.end_ (TX.then_ (TC.ret_ (TX.then_ret ?_)))
 exact ret_tmp Tryz.results73 rfl (fun w1 hw => ⟨rfl, hw.bel⟩)
theorem compactWre {b n cap : Nat} {A : Option Addr} {l : List Wre} {w : World} (hr : w.ownsRow b 54 2 (.slice A n cap) n (flat Wre.cells l)) (hl : l.length = n) (hn : n ≤ 1000000) :
  Calls Tryz.prog 73 #[.slice A n cap] w fun en w' => en = .returned (.slice A (cptG l).length cap) ∧ w'.ownsRow b 54 2 (.slice A (cptG l).length cap) (cptG l).length (flat Wre.cells (cptG l)) ∧ w.grownBy w' (Value.ownBlock (.slice A n cap)) := by
 rcases id hr.2 with ⟨hv, h0⟩ | ⟨q, cap', cur, hv, hb, hq, h1, h2, h3, h4⟩
 ·cases hv
  obtain rfl : l = [] := List.eq_nil_of_length_eq_zero (by omega)
  refine (compactWre_nil w).mono fun en w' ⟨h5, h6⟩ => ⟨h5, ⟨rfl, .inl ⟨rfl, rfl⟩⟩, ?_⟩
  exact ⟨h6.os, h6.tape, h6.output, h6.size, fun k hk _ => h6.block k hk⟩
 ·cases hv
  refine (compactWre_g q n cap l w ⟨hr.1, .inr ⟨q, cap, cur, rfl, Nat.le_refl _, hq, h1, h2, h3, h4⟩⟩ hl hn).mono fun en w' ⟨h5, h6, h7⟩ => ⟨h5, ⟨h6.1, ?_⟩, h7⟩
  rcases h6.2 with ⟨e1, _⟩ | ⟨q', c2, cur2, e1, e2, e3⟩
  ·cases e1
  ·cases e1
   exact .inr ⟨q, cap, cur2, rfl, hb, e3⟩
section
variable {α : Type} {key : α → List Int} {n : Nat}
def AscK (key : α → List Int) (l : List α) : Prop := l.Pairwise fun x y => lexI (key x) (key y) < 0
theorem ltK_irrefl (x : α) : ¬ lexI (key x) (key x) < 0 := by rw [lexI_self]; omega
theorem ltK_trans (hk : ∀ x, (key x).length = n) {x y z : α} (h1 : lexI (key x) (key y) < 0) (h2 : lexI (key y) (key z) < 0) : lexI (key x) (key z) < 0 :=
  (lexI_trans (by rw [hk, hk]) (by rw [hk, hk]) (by omega) (by omega)).2 (.inl h1)
theorem ltK_asymm (hk : ∀ x, (key x).length = n) {x y : α} (h1 : lexI (key x) (key y) < 0) (h2 : lexI (key y) (key x) < 0) : False := ltK_irrefl x (ltK_trans hk h1 h2)
theorem posK (hk : ∀ x, (key x).length = n) {x y : α} : 0 < lexI (key x) (key y) ↔ lexI (key y) (key x) < 0 := (lexI_swap (by rw [hk, hk])).symm
theorem ascK_eq (hk : ∀ x, (key x).length = n) : ∀ {a b : List α}, AscK key a → AscK key b → (∀ x, x ∈ a ↔ x ∈ b) → a = b
  | [], [], _, _, _ => rfl
  | [], y :: b, _, _, h => absurd ((h y).2 List.mem_cons_self) List.not_mem_nil
  | x :: a, [], _, _, h => absurd ((h x).1 List.mem_cons_self) List.not_mem_nil
  | x :: a, y :: b, ha, hb, h => by
    obtain ⟨a1, a2⟩ := List.pairwise_cons.1 ha
    obtain ⟨b1, b2⟩ := List.pairwise_cons.1 hb
    have hxy : x = y := by
      rcases List.mem_cons.1 ((h x).1 List.mem_cons_self) with e | e
      · exact e
      · rcases List.mem_cons.1 ((h y).2 List.mem_cons_self) with e2 | e2
        · exact e2.symm
        · exact (ltK_asymm hk (a1 y e2) (b1 x e)).elim
    subst hxy
    rw [ascK_eq hk a2 b2 fun z => ?_]
    constructor
    · intro hz
      rcases List.mem_cons.1 ((h z).1 (List.mem_cons_of_mem _ hz)) with e | e
      · subst e; exact absurd (a1 z hz) (ltK_irrefl z)
      · exact e
    · intro hz
      rcases List.mem_cons.1 ((h z).2 (List.mem_cons_of_mem _ hz)) with e | e
      · subst e; exact absurd (b1 z hz) (ltK_irrefl z)
      · exact e
theorem cptG_asc [DecidableEq α] (hk : ∀ x, (key x).length = n) : ∀ (l : List α), l.Pairwise (fun x y => ¬ lexI (key y) (key x) < 0) → (∀ x ∈ l, ∀ y ∈ l, key x = key y → x = y) → AscK key (cptG l)
  | [], _, _ => List.Pairwise.nil
  | [a], _, _ => List.pairwise_singleton _ _
  | a :: b :: l, h, hi => by
    obtain ⟨h1, h2⟩ := List.pairwise_cons.1 h
    have ih := cptG_asc hk (b :: l) h2 fun x hx y hy => hi x (List.mem_cons_of_mem _ hx) y (List.mem_cons_of_mem _ hy)
    rw [cptG]
    split
    · exact ih
    · rename_i hne
      refine List.pairwise_cons.2 ⟨fun y hy => ?_, ih⟩
      have hy2 := (mem_cptG y (b :: l)).1 hy
      have hle : ∀ z, z ∈ b :: l → lexI (key a) (key z) ≤ 0 := fun z hz => by
        have e1 := h1 z hz
        have e2 := @posK _ key n hk a z
        omega
      have hab : lexI (key a) (key b) < 0 := by
        have e0 := hle b List.mem_cons_self
        rcases Int.lt_or_eq_of_le e0 with e | e
        · exact e
        · exact absurd (hi a List.mem_cons_self b (List.mem_cons_of_mem _ List.mem_cons_self) ((lexI_zero (by rw [hk, hk])).1 e)) hne
      have hby : lexI (key b) (key y) ≤ 0 := by
        rcases List.mem_cons.1 hy2 with e | e
        · rw [e, lexI_self]; exact Int.le_refl _
        · have e1 := (List.pairwise_cons.1 h2).1 y e
          have e2 := @posK _ key n hk b y
          omega
      exact (lexI_trans (by rw [hk, hk]) (by rw [hk, hk]) (by omega) hby).2 (.inl hab)
theorem ascK_put (hk : ∀ x, (key x).length = n) {o : List α} {q : Nat} {x : α} (h : AscK key o) (h1 : ∀ y ∈ o.take q, lexI (key y) (key x) < 0) (h2 : ∀ y ∈ o.drop q, lexI (key x) (key y) < 0) : AscK key (o.take q ++ x :: o.drop q) := by
  refine List.pairwise_append.2 ⟨h.sublist (List.take_sublist _ _), List.pairwise_cons.2 ⟨h2, h.sublist (List.drop_sublist _ _)⟩, fun a ha b hb => ?_⟩
  rcases List.mem_cons.1 hb with e | e
  · rw [e]; exact h1 a ha
  · exact ltK_trans hk (h1 a ha) (h2 b e)
theorem mem_put {o : List α} {q : Nat} {x z : α} : z ∈ o.take q ++ x :: o.drop q ↔ z ∈ o ∨ z = x := by
  rw [List.mem_append, List.mem_cons]
  have : z ∈ o ↔ z ∈ o.take q ∨ z ∈ o.drop q := by rw [← List.mem_append, List.take_append_drop]
  rw [this]
  constructor
  · rintro (h | h | h)
    · exact .inl (.inl h)
    · exact .inr h
    · exact .inl (.inr h)
  · rintro ((h | h) | h)
    · exact .inl h
    · exact .inr (.inr h)
    · exact .inr (.inl h)
theorem ascK_ahead (hk : ∀ x, (key x).length = n) {o : List α} {q : Nat} {x y : α} (h : AscK key o) (hy : o[q]? = some y) (hx : lexI (key y) (key x) < 0) : ∀ z ∈ o.take (q + 1), lexI (key z) (key x) < 0 := fun z hz => by
  obtain ⟨i, hi⟩ := List.getElem?_of_mem hz
  have hlt : i < q + 1 := by have := (List.getElem?_eq_some_iff.1 hi).1; rw [List.length_take] at this; omega
  rw [List.getElem?_take_of_lt hlt] at hi
  by_cases e : i = q
  · subst e
    rw [hi] at hy
    cases hy
    exact hx
  · obtain ⟨l1, e1⟩ := List.getElem?_eq_some_iff.1 hi
    obtain ⟨l2, e2⟩ := List.getElem?_eq_some_iff.1 hy
    have := List.pairwise_iff_getElem.1 h i q l1 l2 (by omega)
    rw [e1, e2] at this
    exact ltK_trans hk this hx
theorem ascK_behind (hk : ∀ x, (key x).length = n) {o : List α} {q : Nat} {x y : α} (h : AscK key o) (hy : o[q]? = some y) (hx : lexI (key x) (key y) < 0) : ∀ z ∈ o.drop q, lexI (key x) (key z) < 0 := fun z hz => by
  obtain ⟨i, hi⟩ := List.getElem?_of_mem hz
  rw [List.getElem?_drop] at hi
  by_cases e : i = 0
  · subst e
    rw [Nat.add_zero, hy] at hi
    cases hi
    exact hx
  · obtain ⟨l1, e1⟩ := List.getElem?_eq_some_iff.1 hi
    obtain ⟨l2, e2⟩ := List.getElem?_eq_some_iff.1 hy
    have := List.pairwise_iff_getElem.1 h q (q + i) l2 l1 (by omega)
    rw [e1, e2] at this
    exact ltK_trans hk hx this
end
set_option maxRecDepth 20000
theorem filt_snoc_t {α : Type} {p : α → Bool} {l out : List α} {i : Nat} {x : α} (hx : l[i]? = some x) (h : p x = true) (ho : (l.take i).filter p = out) : (l.take (i + 1)).filter p = out ++ [x] := by
  rw [List.take_add_one, hx, List.filter_append, ho]
  simp [h]
theorem filt_snoc_f {α : Type} {p : α → Bool} {l out : List α} {i : Nat} {x : α} (hx : l[i]? = some x) (h : p x = false) (ho : (l.take i).filter p = out) : (l.take (i + 1)).filter p = out := by
  rw [List.take_add_one, hx, List.filter_append, ho]
  simp [h]
def IsOrd (l o : List Rs) : Prop := AscK Rs.keys o ∧ ∀ x, x ∈ o ↔ x ∈ l ∧ vldRs x = true
theorem keys_len (x : Rs) : x.keys.length = 17 := rfl
theorem IsOrd.eq {l o o' : List Rs} (h : IsOrd l o) (h' : IsOrd l o') : o = o' := ascK_eq keys_len h.1 h'.1 fun x => by rw [h.2, h'.2]
theorem keys_inj {x y : Rs} (hx : x.Ok) (hy : y.Ok) (h : x.keys = y.keys) : x = y := by
  obtain ⟨a1, a2, a3, a4⟩ := hx
  obtain ⟨b1, b2, b3, b4⟩ := hy
  have w1 : ∀ z : Int, 0 ≤ z → z ≤ 4294967295 → IntKind.i64.wrap z = z := fun z h0 h1 => by simp only [IntKind.wrap_i64]; omega
  have hb : ∀ p q : Bool, b2i p = b2i q → p = q := fun p q => by cases p <;> cases q <;> decide
  simp only [Rs.keys, List.cons.injEq, and_true] at h
  rw [w1 _ a1 a2, w1 _ b1 b2, w1 _ a3 a4, w1 _ b3 b4] at h
  obtain ⟨v, run, num, at_, dst, proto, flow, ttl, ans, dbl, back, src, kind, code, left, id, quo⟩ := x
  obtain ⟨v', run', num', at', dst', proto', flow', ttl', ans', dbl', back', src', kind', code', left', id', quo'⟩ := y
  simp only at h
  obtain ⟨h1, h2, h3, h4, h5, h6, h7, h8, h9, h10, h11, h12, h13, h14, h15, h16, h17⟩ := h
  have h9 := hb _ _ h9
  have h10 := hb _ _ h10
  subst h1 h2 h3 h4 h5 h6 h7 h8 h9 h10 h11 h12 h13 h14 h15 h16 h17
  rfl
theorem isOrd_of {l o s : List Rs} (hok : ∀ r ∈ l, r.Ok) (ho : l.filter vldRs = o) (hs : Sorted cmpRs o s) : IsOrd l (cptG s) := by
  have hm : ∀ x, x ∈ s ↔ x ∈ l ∧ vldRs x = true := fun x => by rw [hs.1.mem_iff, ← ho, List.mem_filter]
  refine ⟨cptG_asc keys_len s hs.2 fun x hx y hy h => keys_inj (hok x ((hm x).1 hx).1) (hok y ((hm y).1 hy).1) h, fun x => by rw [mem_cptG, hm]⟩
theorem porbs26_1_99505 (a0_0 : Int) (a0_1 : Int) (a0_2 : Int) (a0_3 : Int) (a0_4 : Int) (a0_5 : Int) (a0_6 : Int) (a0_7 : Int) (a0_8 : Bool) (a0_9 : Bool) (a0_10 : Int) (a0_11 : Int) (a0_12 : Int) (a0_13 : Int) (a0_14 : Int) (a0_15 : Int) (a0_16 : Int) (w : World) : (Instr.buildSlice 26 1 #[(0, .agg #[.int .i64 a0_0, .int .i64 a0_1, .int .i64 a0_2, .int .i64 a0_3, .int .u32 a0_4, .int .i64 a0_5, .int .i64 a0_6, .int .i64 a0_7, .bool a0_8, .bool a0_9, .int .i64 a0_10, .int .u32 a0_11, .int .i64 a0_12, .int .i64 a0_13, .int .i64 a0_14, .int .i64 a0_15, .int .i64 a0_16])]).run Tryz.prog w = .ok (.slice (some ⟨w.heap.size, 0, none⟩) 1 1) (w.alloc (.cells [.int .i64 a0_0, .int .i64 a0_1, .int .i64 a0_2, .int .i64 a0_3, .int .u32 a0_4, .int .i64 a0_5, .int .i64 a0_6, .int .i64 a0_7, .bool a0_8, .bool a0_9, .int .i64 a0_10, .int .u32 a0_11, .int .i64 a0_12, .int .i64 a0_13, .int .i64 a0_14, .int .i64 a0_15, .int .i64 a0_16].toArray 47)) := by kernel_rfl
theorem porel26 : Elem Tryz.prog 26 47 17 128 := Elem.mk' Tryz.underlying26 (z := .agg #[.int .i64 0, .int .i64 0, .int .i64 0, .int .i64 0, .int .u32 0, .int .i64 0, .int .i64 0, .int .i64 0, .bool false, .bool false, .int .i64 0, .int .u32 0, .int .i64 0, .int .i64 0, .int .i64 0, .int .i64 0, .int .i64 0]) (by kernel_rfl) rfl (by omega) (by omega)
theorem pornm87 : (Tryz.f87.name == "runtime.NumGoroutine") = false := by decide
theorem porbd87 : Tryz.f87.body.isNone = false := rfl
theorem pornm88 : (Tryz.f88.name == "runtime.NumGoroutine") = false := by decide
theorem porbd88 : Tryz.f88.body.isNone = false := rfl
set_option maxHeartbeats 1000000 in
theorem ord_any (A0 : Option Addr) (c0 : Nat) (l : List Rs) (w : World) (hr : Reads w w.heap.size 17 A0 l.length (flat Rs.cells l)) (hl1 : l.length ≤ 100000) (hok : ∀ r ∈ l, r.Ok) :
    Calls Tryz.prog 40 #[.slice A0 l.length c0] w fun e w' => ∃ x : {y : (Option Addr × Nat) × List Rs // IsOrd l y.2 ∧ y.2.length ≤ y.1.2 ∧ y.1.2 ≤ maxLen}, e = .returned (.slice x.1.1.1 x.1.2.length x.1.1.2) ∧ Pm w [.row (.slice x.1.1.1 x.1.2.length x.1.1.2) 47 17 x.1.2.length (flat Rs.cells x.1.2)] w' := by
  refine begin_ (vs := [.slice A0 l.length c0]) Tryz.func40 rfl rfl rfl ?_ (Pm.start w)
  refine TC.seq_ ?_
  refine TC.region ?_
  refine TL.val rfl rfl rfl (gives_assign rfl rfl) ?_
  refine TL.end_ ?_
  refine TX.then_ ?_
  refine TC.seq_ ?_
  refine TC.region ?_
  refine TL.val rfl rfl rfl (gives_assign rfl rfl) ?_
  refine TL.end_ ?_
  refine TX.then_ ?_
  refine TC.seq_ ?_
  refine TC.seq_ ?_
  refine TC.region ?_
  refine TL.val rfl rfl rfl (gives_move rfl rfl) ?_
  refine TL.val rfl rfl rfl (gives_len rfl Tryz.underlying26 rfl) ?_
  refine TL.val rfl rfl rfl (gives_move rfl rfl) ?_
  refine TL.end_ ?_
  refine TX.then_ ?_
  refine TC.block ?_
  refine TC.nilrow 47 17 ?_
  refine TC.loop_ (α := {y : Nat × (Option Addr × Nat) × List Rs // y.1 ≤ l.length ∧ ((l.take y.1).filter vldRs = y.2.2) ∧ y.2.2.length ≤ y.1 ∧ y.2.2.length ≤ y.2.1.2 ∧ y.2.1.2 ≤ maxLen}) (fun y => [(2, .slice none 0 0), (6, .slice A0 l.length c0), (7, .int .i64 (l.length : Nat)), (8, .int .i64 ((y.1.1 : Nat) : Int)), (3, .slice y.1.2.1.1 y.1.2.2.length y.1.2.1.2)]) (fun y => Pm w [.row (.slice y.1.2.1.1 y.1.2.2.length y.1.2.1.2) 47 17 y.1.2.2.length (flat Rs.cells y.1.2.2)]) (fun y => l.length - y.1.1) (⟨(0, (none, 0), []), Nat.zero_le _, rfl, Nat.le_refl _, Nat.le_refl _, Nat.zero_le _⟩) ⟨rfl, rfl, rfl, rfl, rfl, trivial⟩ (fun w1 hw => hw) ?_
  rintro ⟨⟨i, ⟨Ao, co⟩, out⟩, hi, hout, houtl, houtc, houtm⟩
  dsimp only at hi hout houtl houtc houtm ⊢
  refine TC.seq_ ?_
  refine TC.region ?_
  refine TL.vsplit rfl rfl rfl (gives_bin rfl rfl rfl (fun w => bin_lss w)) (fun h9 => ?_) (fun h9 => ?_)
  · have q9 := of_decide_eq_true h9
    refine TL.end_ ?_
    refine TX.then_ ?_
    refine TC.seq_ ?_
    refine TC.condT rfl ?_
    refine TC.skip_ ?_
    refine TX.then_ ?_
    refine TC.seq_ ?_
    refine TC.block ?_
    refine TC.seq_ ?_
    refine TC.region ?_
    have hi10 : i < l.length := by omega
    obtain ⟨x10, hx10⟩ : ∃ x10, l[i]? = some x10 := ⟨_, List.getElem?_eq_getElem hi10⟩
    obtain ⟨b10, o10, hA10, hbb10, hc10⟩ := hr.ad (by omega) (by decide)
    refine TL.val rfl rfl rfl (gives_at (v := .pointer (some ⟨b10, o10 + i * 17, none⟩)) rfl rfl rfl (fun w => at_el Tryz.underlying26 prssz47 hA10 _ _ i (by omega) rfl w)) ?_
    refine TL.val rfl rfl rfl (gives_loadR (off := o10 + i * 17) rfl rfl prsag47 prssz47 (rs_cel.len x10) (fun w1 hw j9 u9 h9 => (hw.bel.cell hbb10).trans <| flat_cell rs_cel hx10 hc10 j9 u9 h9)) ?_
    refine TL.pnew rfl rfl rfl (exec_alloc (cs := [.int .i64 0, .int .i64 0, .int .i64 0, .int .i64 0, .int .u32 0, .int .i64 0, .int .i64 0, .int .i64 0, .bool false, .bool false, .int .i64 0, .int .u32 0, .int .i64 0, .int .i64 0, .int .i64 0, .int .i64 0, .int .i64 0]) rfl pcpzv47 rfl) (fun g5 => ?_)
    refine TL.pstore (k := 0) (vs := x10.cells) rfl rfl rfl rfl rfl rfl rfl prssz47 (rs_cel.one _) (by show 17 ≤ 17; decide) (L' := [.blk g5 47 x10.cells, .row (.slice Ao out.length co) 47 17 out.length (flat Rs.cells out)]) rfl ?_
    refine TL.end_ ?_
    refine TX.then_ ?_
    refine TC.seq_ ?_
    refine TC.region ?_
    refine TL.val rfl rfl rfl (pm_loadV (k := 0) (i := 0) (n := 17) (v := .agg (x10.cells).toArray) rfl rfl prsag47 prssz47 rfl (by show 17 ≤ 17; decide) rfl) ?_
    refine TL.callsplit rfl rfl rfl rfl rfl Tryz.func26 prsnm26 prsbd26 (fun w1 hw => vldRs_any x10 w1) (fun h13 => ?_) (fun h13 => ?_)
    · refine TL.end_ ?_
      refine TX.then_ ?_
      refine TC.condT rfl ?_
      refine TC.region ?_
      refine TL.val rfl rfl rfl (gives_move rfl rfl) ?_
      refine TL.val rfl rfl rfl (pm_loadV (k := 0) (i := 0) (n := 17) (v := .agg (x10.cells).toArray) rfl rfl prsag47 prssz47 rfl (by show 17 ≤ 17; decide) rfl) ?_
      refine TL.prowS (e := 47) (size := 17) (cs := flat Rs.cells [x10]) rfl rfl rfl rfl rfl (fun w => porbs26_1_99505 _ _ _ _ _ _ _ _ _ _ _ _ _ _ _ _ _ w) (by decide) rfl (fun g16 => ?_)
      refine TL.appendT (k := 2) rfl rfl rfl rfl Tryz.underlying26 porel26 rfl rfl rfl (fun w1 hw => pm_reads hw (k := 0) rfl) (flat_one rs_cel _) (by show _ * 128 ≤ _; omega) ((out ++ [x10]).length) (by rw [List.length_append]; rfl) (flat Rs.cells (out ++ [x10])) ((flat_app _ _).symm) (fun A17 c17 hA171 hA172 => ?_)
      refine TL.val rfl rfl rfl (gives_assign rfl rfl) ?_
      refine TL.end_ ?_
      refine TX.in_normal ?_
      refine TX.then_ ?_
      refine TC.region ?_
      refine TL.val rfl rfl rfl (gives_bin rfl rfl rfl (fun w => bin_add_ (r := ((i + 1 : Nat) : Int)) (by simp only [IntKind.wrap_i64]; omega) w)) ?_
      refine TL.val rfl rfl rfl (gives_move rfl rfl) ?_
      refine TL.end_ ?_
      exact TX.round (⟨(i + 1, (A17, c17), out ++ [x10]), by dsimp only; omega, filt_snoc_t hx10 h13 hout, by dsimp only; rw [List.length_append]; show out.length + 1 ≤ _; omega, hA171, hA172⟩) (by show l.length - (i + 1) < l.length - i; omega) ⟨rfl, rfl, rfl, rfl, rfl, trivial⟩ (fun w1 hw => hw.pick [2] (by decide) rfl)
    · refine TL.end_ ?_
      refine TX.then_ ?_
      refine TC.condF rfl ?_
      refine TC.skip_ ?_
      refine TX.in_normal ?_
      refine TX.then_ ?_
      refine TC.region ?_
      refine TL.val rfl rfl rfl (gives_bin rfl rfl rfl (fun w => bin_add_ (r := ((i + 1 : Nat) : Int)) (by simp only [IntKind.wrap_i64]; omega) w)) ?_
      refine TL.val rfl rfl rfl (gives_move rfl rfl) ?_
      refine TL.end_ ?_
      exact TX.round (⟨(i + 1, (Ao, co), out), by dsimp only; omega, filt_snoc_f hx10 h13 hout, by dsimp only; omega, houtc, houtm⟩) (by show l.length - (i + 1) < l.length - i; omega) ⟨rfl, rfl, rfl, rfl, rfl, trivial⟩ (fun w1 hw => hw.pick [1] (by decide) rfl)
  · have q9 := of_decide_eq_false h9
    refine TL.end_ ?_
    refine TX.then_ ?_
    refine TC.seq_ ?_
    refine TC.condF rfl ?_
    refine TC.exit_ ?_
    refine TX.then_exit ?_
    refine TX.then_exit ?_
    refine TX.in_same ?_
    refine TX.then_ ?_
    refine TC.seq_ ?_
    refine TC.region ?_
    refine TL.val rfl rfl rfl (gives_move rfl rfl) ?_
    refine TL.turnRowD (k := 0) (fun ys => Sorted cmpRs out ys) rfl rfl rfl rfl rfl Tryz.func87 pornm87 porbd87 rfl (fun w1 hw hr9 => sortRs hr9 (rfl) (by omega)) (fun srt20 hS20 => ?_)
    try dsimp only [List.set_cons_zero, List.set_cons_succ]
    refine TL.end_ ?_
    refine TX.then_ ?_
    refine TC.seq_ ?_
    refine TC.region ?_
    refine TL.val rfl rfl rfl (gives_move rfl rfl) ?_
    refine TL.turnRow2 (q := 0) (ys := cptG srt20) rfl rfl rfl rfl rfl Tryz.func88 pornm88 porbd88 rfl (fun w1 hw hr9 => compactRs hr9 (hS20.1.length_eq) (by omega)) ?_
    try dsimp only [List.set_cons_zero, List.set_cons_succ]
    refine TL.val rfl rfl rfl (gives_assign rfl rfl) ?_
    refine TL.end_ ?_
    refine TX.then_ ?_
    refine TC.ret_ ?_
    have hle : (cptG srt20).length ≤ out.length := Nat.le_trans (cptG_le _) (Nat.le_of_eq hS20.1.length_eq)
    exact ret_tmp Tryz.results40 rfl (fun w1 hw => ⟨⟨((Ao, co), cptG srt20), isOrd_of hok (by rw [List.take_of_length_le (by omega)] at hout; exact hout) hS20, by dsimp only; omega, houtm⟩, rfl, hw.pick [0] (by decide) rfl⟩)
section
variable {P : Program}
theorem run_copy_at (w : World) (dT sT ty elem : TypeId) (g off dLen dCap : Nat) (a : Addr) (sLen sCap size : Nat) (cur : Array Value) (t : TypeId) (cs : List Value) (hu : P.underlying dT = some (.slice elem)) (hs : ∀ w : World, (sizeOf elem).run P w = .ok size w)
    (hg : w.heap[g]? = some (.cells cur t (0, 0))) (hn : cs.length = Nat.min sLen dLen * size) (hsrc : ∀ j v, cs[j]? = some v → w.cell? (a.add j) = some v) (hfit : off + cs.length ≤ cur.size) (h1 : ∀ v ∈ cs, v.oneCell' = true) :
    (Builtin.copy_ #[dT, sT] ty #[.slice (some ⟨g, off, none⟩) dLen dCap, .slice (some a) sLen sCap]).run P w =
      .ok (goInt (Nat.min sLen dLen)) (w.setRow g (cur.toList.take off ++ cs ++ cur.toList.drop (off + cs.length)).toArray) := by
  have hfo := run_firstCells_some (P := P) w size (Nat.min sLen dLen) a sLen sCap cs hn hsrc
  have hst := run_storeCells_at P g off t cs 0 cur w hg (by simpa using hfit) h1
  simp only [Nat.add_zero] at hst
  have hmin : Nat.min sLen dLen = min sLen dLen := rfl
  rw [hmin] at hfo ⊢
  simp [Builtin.copy_, run_underlying hu, Builtin.lenOf, hs, hfo, hst]
variable {N : Fr} {Q : Exit → Act → World → Prop} {E : Env} {w0 : Base} {L : List Pc} {ops : Array Oper} {l : List Oper} {o : Oper}
theorem TL.copyRow {d k n c g off dl dc sl sc size : Nat} {s x : Operand} {t u e : TypeId} {ad : Addr} {xs cs xs' : List Value} (hg : o.guard = none) (hd : o.dst = some d) (hN : Nat.blt d N.n = true)
    (ho : o.op = .call { callee := .builtin .copy, args := #[s, x], argTypes := #[t, u] }) (ht : P.underlying t = some (.slice e)) (hz : ∀ w : World, (sizeOf e).run P w = .ok size w) (hs : ev E s = some (.slice (some ⟨g, off, none⟩) dl dc)) (hx : ev E x = some (.slice (some ad) sl sc))
    (hk : L[k]? = some (.row (.slice (some ⟨g, 0, none⟩) n c) e size n xs)) (hsrc : ∀ w, Pm w0 L w → ∀ j v, cs[j]? = some v → w.cell? (ad.add j) = some v) {m : Nat} (hm : Nat.min sl dl = m) (hn : cs.length = m * size) (hl : off + cs.length ≤ xs.length) (h1 : ∀ v ∈ cs, v.oneCell' = true)
    (hL : xs.take off ++ cs ++ xs.drop (off + cs.length) = xs')
    (h : TL P N ops Q l ((d, .int .i64 ((m : Nat) : Int)) :: E) (Pm w0 (L.set k (.row (.slice (some ⟨g, 0, none⟩) n c) e size n xs')))) : TL P N ops Q (o :: l) E (Pm w0 L) := by
  subst hL hm
  refine TL.run (α := Unit) (r := fun _ => .int .i64 ((Nat.min sl dl : Nat) : Int)) (I' := fun _ => Pm w0 (L.set k (.row (.slice (some ⟨g, 0, none⟩) n c) e size n (xs.take off ++ cs ++ xs.drop (off + cs.length))))) hg hd hN (fun a w ha hw => ?_) (fun _ => h)
  obtain ⟨cur, hcur, hfit, hown⟩ := row_put (hw.at_ hk) hl
  have hrun := run_copy_at (P := P) w t u o.type e g off dl dc ad sl sc size cur e cs ht hz hcur hn (hsrc w hw) hfit h1
  refine ⟨(), _, ?_, hw.turn hk (grown_setRow _ _) hown (fun g' hg' => .inl hg') (fun k o e => by cases e)⟩
  unfold execOp; rw [ho]
  simp only [resolve, invoke, builtin, Sem.run_bind, Sem.run_pure, Result.andThen_ok, List.map_toArray, List.map_cons, List.map_nil, ha.eval hs, ha.eval hx, hrun]
  rfl
def shiftL {α : Type} (xs : List α) (k : Nat) : List α := xs.take (k + 1) ++ (xs.drop k).take (xs.length - (k + 1))
theorem shiftL_len {α : Type} (xs : List α) (k : Nat) (hk : k < xs.length) : (shiftL xs k).length = xs.length := by
  simp only [shiftL, List.length_append, List.length_take, List.length_drop]; omega
theorem shiftL_at {α : Type} (o : List α) (y x : α) (k : Nat) (hk : k ≤ o.length) : (shiftL (o ++ [y]) k).set k x = o.take k ++ x :: o.drop k := by
  unfold shiftL
  have e1 : (o ++ [y]).take (k + 1) = o.take k ++ [((o ++ [y])[k]?).getD y] := by
    rw [List.take_add_one, List.take_append_of_le_length hk]
    have : k < (o ++ [y]).length := by simp; omega
    rw [List.getElem?_eq_getElem this]
    rfl
  have e2 : ((o ++ [y]).drop k).take ((o ++ [y]).length - (k + 1)) = o.drop k := by
    rw [List.drop_append_of_le_length hk, List.length_append, List.length_singleton, Nat.add_sub_add_right, List.take_append_of_le_length (by simp), List.take_of_length_le (by simp)]
  have e3 : (o.take k).length = k := by rw [List.length_take]; omega
  rw [e1, e2, List.append_assoc, List.set_append_right _ _ (by omega), e3, Nat.sub_self]
  rfl
theorem min_gap (n k : Nat) : Nat.min (n - k) (n - (k + 1)) = n - (k + 1) := Nat.min_eq_right (by omega)
theorem TL.shiftF {α : Type} {cc : α → List Value} {size : Nat} (K : Cel cc size) {d kk k n c g : Nat} {s x : Operand} {t u e : TypeId} {xs : List α} (hg : o.guard = none) (hd : o.dst = some d) (hN : Nat.blt d N.n = true)
    (ho : o.op = .call { callee := .builtin .copy, args := #[s, x], argTypes := #[t, u] }) (ht : P.underlying t = some (.slice e)) (hz : ∀ w : World, (sizeOf e).run P w = .ok size w)
    (hs : ev E s = some (.slice (if c = k + 1 then some ⟨g, 0, none⟩ else (some (⟨g, 0, none⟩ : Addr)).map (·.add ((k + 1) * size))) (n - (k + 1)) (c - (k + 1)))) (hx : ev E x = some (.slice (some ⟨g, k * size, none⟩) (n - k) (c - k)))
    (hk : L[kk]? = some (.row (.slice (some ⟨g, 0, none⟩) n c) e size n (flat cc xs))) (hn : xs.length = n) (hq : k < n) (hc : n ≤ c)
    (h : TL P N ops Q l ((d, .int .i64 ((n - (k + 1) : Nat) : Int)) :: E) (Pm w0 (L.set kk (.row (.slice (some ⟨g, 0, none⟩) n c) e size n (flat cc (shiftL xs k)))))) : TL P N ops Q (o :: l) E (Pm w0 L) := by
  subst hn
  have hcs : (flat cc ((xs.drop k).take (xs.length - (k + 1)))).length = (xs.length - (k + 1)) * size := by rw [flat_len K, List.length_take, List.length_drop, Nat.min_eq_left (by omega)]
  have hlen : (flat cc xs).length = xs.length * size := flat_len K xs
  have hsz : (k + 1) * size ≤ xs.length * size := Nat.mul_le_mul_right _ (by omega)
  have hsum : (k + 1) * size + (xs.length - (k + 1)) * size = xs.length * size := by rw [← Nat.add_mul]; congr 1; omega
  have hsrc : ∀ w, Pm w0 L w → ∀ j v, (flat cc ((xs.drop k).take (xs.length - (k + 1))))[j]? = some v → w.cell? ((⟨g, k * size, none⟩ : Addr).add j) = some v := fun w hw j v hj => by
    have e1 : (⟨g, k * size, none⟩ : Addr).add j = ⟨g, k * size + j, none⟩ := by unfold Addr.add; split <;> simp_all
    rw [e1]
    have hjl := (List.getElem?_eq_some_iff.1 hj).1
    rw [hcs] at hjl
    refine pm_row hw hk ?_
    rw [← flat_take K, List.getElem?_take_of_lt hjl, ← flat_drop K, List.getElem?_drop] at hj
    exact hj
  by_cases e : c = k + 1
  · have hnk : xs.length = k + 1 := by omega
    rw [if_pos e] at hs
    refine TL.copyRow (cs := flat cc ((xs.drop k).take (xs.length - (k + 1)))) (m := xs.length - (k + 1)) hg hd hN ho ht hz hs hx hk hsrc (min_gap _ _) hcs (by rw [hcs, hlen]; omega) (flat_one K _) (xs' := flat cc (shiftL xs k)) ?_ h
    have e0 : xs.length - (k + 1) = 0 := by omega
    have e2 : shiftL xs k = xs := by unfold shiftL; rw [e0, List.take_zero, List.append_nil, List.take_of_length_le (by omega)]
    rw [e2, e0, List.take_zero]
    simp [flat]
  · rw [if_neg e] at hs
    have e1 : (some (⟨g, 0, none⟩ : Addr)).map (·.add ((k + 1) * size)) = some ⟨g, (k + 1) * size, none⟩ := by
      show some ((⟨g, 0, none⟩ : Addr).add ((k + 1) * size)) = _
      congr 1
      unfold Addr.add; split <;> simp_all
    rw [e1] at hs
    refine TL.copyRow (cs := flat cc ((xs.drop k).take (xs.length - (k + 1)))) (m := xs.length - (k + 1)) hg hd hN ho ht hz hs hx hk hsrc (min_gap _ _) hcs (by rw [hcs, hlen]; omega) (flat_one K _) (xs' := flat cc (shiftL xs k)) ?_ h
    have e3 : (flat cc xs).drop ((k + 1) * size + (flat cc ((xs.drop k).take (xs.length - (k + 1)))).length) = [] := List.drop_of_length_le (by rw [hcs, hsum, hlen]; exact Nat.le_refl _)
    rw [e3, List.append_nil, flat_take K, ← flat_app]
    rfl
end
set_option maxRecDepth 20000
theorem IsOrd.nil : IsOrd [] [] := ⟨List.Pairwise.nil, fun x => by simp⟩
theorem mem_take_snoc {α : Type} {l : List α} {i : Nat} {x z : α} (hx : l[i]? = some x) : z ∈ l.take (i + 1) ↔ z ∈ l.take i ∨ z = x := by
 rw [List.take_add_one, hx, List.mem_append]
 simp
theorem IsOrd.skip {l o : List Rs} {i : Nat} {x : Rs} (h : IsOrd (l.take i) o) (hx : l[i]? = some x) (hv : vldRs x = false) : IsOrd (l.take (i + 1)) o := ⟨h.1, fun z => by
 rw [h.2, mem_take_snoc hx]
 constructor
 ·exact fun hh => ⟨.inl hh.1, hh.2⟩
 ·rintro ⟨h1 | h1, h2⟩
  ·exact ⟨h1, h2⟩
  ·subst h1; rw [hv] at h2; cases h2⟩
theorem IsOrd.dup {l o : List Rs} {i q : Nat} {x y : Rs} (h : IsOrd (l.take i) o) (hx : l[i]? = some x) (hv : vldRs x = true) (hok : ∀ r ∈ l, r.Ok) (hy : o[q]? = some y) (hc : cmpRs y x = 0) : IsOrd (l.take (i + 1)) o := by
 have hym := List.mem_of_getElem? hy
 have e : y = x := keys_inj (hok y (List.mem_of_mem_take ((h.2 y).1 hym).1)) (hok x (List.mem_of_getElem? hx)) ((lexI_zero (a := y.keys) (b := x.keys) rfl).1 hc)
 subst e
 refine ⟨h.1, fun z => ?_⟩
 rw [h.2, mem_take_snoc hx]
 constructor
 ·exact fun hh => ⟨.inl hh.1, hh.2⟩
 ·rintro ⟨h1 | h1, h2⟩
  ·exact ⟨h1, h2⟩
  ·rw [h1]; exact (h.2 y).1 hym
theorem IsOrd.put {l o : List Rs} {i q : Nat} {x : Rs} (h : IsOrd (l.take i) o) (hx : l[i]? = some x) (hv : vldRs x = true) (h1 : ∀ y ∈ o.take q, lexI y.keys x.keys < 0) (h2 : ∀ y ∈ o.drop q, lexI x.keys y.keys < 0) : IsOrd (l.take (i + 1)) (o.take q ++ x :: o.drop q) := by
 refine ⟨ascK_put keys_len h.1 h1 h2, fun z => ?_⟩
 rw [mem_put, h.2, mem_take_snoc hx]
 constructor
 ·rintro (hh | hh)
  ·exact ⟨.inl hh.1, hh.2⟩
  ·rw [hh]; exact ⟨.inr rfl, hv⟩
 ·rintro ⟨h3 | h3, h4⟩
  ·exact .inl ⟨h3, h4⟩
  ·exact .inr h3
theorem pronm32 : (Tryz.f32.name == "runtime.NumGoroutine") = false := by decide
theorem probd32 : Tryz.f32.body.isNone = false := rfl
set_option maxHeartbeats 1000000 in
theorem rord_any (A0 : Option Addr) (c0 : Nat) (l : List Rs) (w : World) (hr : Reads w w.heap.size 17 A0 l.length (flat Rs.cells l)) (hl1 : l.length ≤ 100000) (hok : ∀ r ∈ l, r.Ok) :
  Calls Tryz.prog 41 #[.slice A0 l.length c0] w fun e w' => ∃ x : {y : (Option Addr × Nat) × List Rs // IsOrd l y.2 ∧ y.2.length ≤ y.1.2 ∧ y.1.2 ≤ maxLen}, e = .returned (.slice x.1.1.1 x.1.2.length x.1.1.2) ∧ Pm w [.row (.slice x.1.1.1 x.1.2.length x.1.1.2) 47 17 x.1.2.length (flat Rs.cells x.1.2)] w' := by
 refine begin_ (vs := [.slice A0 l.length c0]) Tryz.func41 rfl rfl rfl ?_ (Pm.start w)
 refine TC.seq_ (TC.region ?_)
 refine TL.as_ ?_
 refine TL.end_ (TX.then_ (TC.seq_ (TC.region ?_)))
 refine TL.as_ ?_
 refine TL.end_ (TX.then_ (TC.seq_ (TC.seq_ (TC.region ?_))))
 refine TL.as_ ?_
 refine TL.end_ (TX.then_ (TC.block ?_))
 refine TC.nilrow 47 17 ?_
 refine TC.loop_ (α := {y : Nat × (Option Addr × Nat) × Nat × List Rs // y.1 ≤ l.length ∧ (IsOrd (l.take y.1) y.2.2.2) ∧ y.2.2.1 ≤ y.1 ∧ y.2.2.1 ≤ y.2.1.2 ∧ y.2.1.2 ≤ maxLen ∧ y.2.2.2.length = y.2.2.1}) (fun y => [(0, .slice A0 l.length c0), (2, .slice none 0 0), (4, .int .i64 ((y.1.1 : Nat) : Int)), (3, .slice y.1.2.1.1 y.1.2.2.1 y.1.2.1.2)]) (fun y => Pm w [.row (.slice y.1.2.1.1 y.1.2.2.1 y.1.2.1.2) 47 17 y.1.2.2.1 (flat Rs.cells y.1.2.2.2)]) (fun y => l.length - y.1.1) (⟨(0, (none, 0), 0, []), Nat.zero_le _, IsOrd.nil, Nat.le_refl _, Nat.le_refl _, Nat.zero_le _, rfl⟩) ⟨rfl, rfl, rfl, rfl, trivial⟩ (fun w1 hw => hw) ?_
 rintro ⟨⟨i, ⟨Ao, co⟩, m, out⟩, hi, hout, houtl, houtc, houtm, houtn⟩
 dsimp only at hi hout houtl houtc houtm houtn ⊢
 refine TC.seq_ (TC.seq_ (TC.region ?_))
 refine TL.mv ?_
 refine TL.mv ?_
 refine TL.val rfl rfl rfl (gives_len rfl Tryz.underlying26 rfl) ?_
 refine TL.vsplit rfl rfl rfl (gives_bin rfl rfl rfl (fun w => bin_lss w)) (fun h9 => ?_) (fun h9 => ?_)
 ·have q9 := of_decide_eq_true h9
  refine TL.end_ (TX.then_ (TC.condT rfl (TC.skip_ (TX.then_ (TC.seq_ (TC.block (TC.seq_ (TC.seq_ (TC.region ?_)))))))))
  refine TL.mv ?_
  refine TL.mv ?_
  have hi14 : i < l.length := by omega
  obtain ⟨x14, hx14⟩ : ∃ x14, l[i]? = some x14 := ⟨_, List.getElem?_eq_getElem hi14⟩
  obtain ⟨b14, o14, hA14, hbb14, hc14⟩ := hr.ad (by omega) (by decide)
  refine TL.val rfl rfl rfl (gives_at (v := .pointer (some ⟨b14, o14 + i * 17, none⟩)) rfl rfl rfl (fun w => at_el Tryz.underlying26 prssz47 hA14 _ _ i (by omega) rfl w)) ?_
  refine TL.val rfl rfl rfl (gives_loadR (off := o14 + i * 17) rfl rfl prsag47 prssz47 (rs_cel.len x14) (fun w1 hw j9 u9 h9 => (hw.bel.cell hbb14).trans <| flat_cell rs_cel hx14 hc14 j9 u9 h9)) ?_
  refine TL.callsplit rfl rfl rfl rfl rfl Tryz.func27 prsnm27 prsbd27 (fun w1 hw => rvldRs_any x14 w1) (fun h16 => ?_) (fun h16 => ?_)
  ·refine TL.val rfl rfl rfl (gives_boolnot rfl rfl) ?_
   refine TL.end_ (TX.then_ (TC.condF rfl (TC.skip_ (TX.then_ (TC.seq_ (TC.region ?_))))))
   refine TL.mv ?_
   refine TL.val rfl rfl rfl (gives_len rfl Tryz.underlying26 rfl) ?_
   refine TL.as_ ?_
   refine TL.end_ (TX.then_ (TC.seq_ (TC.block ?_)))
   refine TC.loop_ (α := {k : Nat // k ≤ out.length ∧ ∀ z ∈ out.drop k, lexI x14.keys z.keys < 0}) (fun y => [(0, .slice A0 l.length c0), (2, .slice none 0 0), (3, .slice Ao m co), (4, .int .i64 ((i : Nat) : Int)), (5, .int .i64 ((y.1 : Nat) : Int))]) (fun y => Pm w [.row (.slice Ao m co) 47 17 m (flat Rs.cells out)]) (fun y => y.1) (⟨m, by omega, fun z hz => by rw [List.drop_of_length_le (by omega)] at hz; cases hz⟩) ⟨rfl, rfl, rfl, rfl, rfl, trivial⟩ (fun w1 hw => hw) ?_
   rintro ⟨k, hk, hgt⟩
   try dsimp only at hk hgt ⊢
   refine TC.seq_ (TC.seq_ ?_)
   by_cases hk0 : k = 0
   ·refine TC.quietQ (by kernel_rfl) (by kernel_rfl) (fun w hw => hw.drawn _) ?_
    refine TQ.val rfl rfl rfl (gives_move rfl rfl) ?_
    refine TQ.val rfl rfl rfl (gives_bin rfl rfl rfl (fun w => bin_gtr_f (by omega) w)) ?_
    iterate 13 (first | refine TQ.off rfl rfl rfl rfl rfl rfl ?_ | refine TQ.val rfl rfl rfl (gives_move rfl rfl) ?_ | refine TQ.val rfl rfl rfl (gives_pick rfl rfl rfl) ?_)
    refine TQ.fin ?_
    refine TX.then_ (TC.condF rfl (TC.exit_ (TX.then_exit (TX.then_exit (TX.in_same (TX.then_ (TC.seq_ (TC.seq_ ?_))))))))
    ·refine TC.quietQ (by kernel_rfl) (by kernel_rfl) (fun w hw => hw.drawn _) ?_
     refine TQ.val rfl rfl rfl (gives_move rfl rfl) ?_
     refine TQ.val rfl rfl rfl (gives_bin rfl rfl rfl (fun w => bin_gtr_f (by omega) w)) ?_
     iterate 13 (first | refine TQ.off rfl rfl rfl rfl rfl rfl ?_ | refine TQ.val rfl rfl rfl (gives_move rfl rfl) ?_ | refine TQ.val rfl rfl rfl (gives_pick rfl rfl rfl) ?_)
     refine TQ.fin ?_
     refine TX.then_ (TC.condF rfl (TC.skip_ (TX.then_ (TC.seq_ (TC.region ?_)))))
     refine TL.mv ?_
     refine TL.mv ?_
     refine TL.mv ?_
     refine TL.val rfl rfl rfl (gives_at (v := .pointer (some ⟨b14, o14 + i * 17, none⟩)) rfl rfl rfl (fun w => at_el Tryz.underlying26 prssz47 hA14 _ _ i (by omega) rfl w)) ?_
     refine TL.val rfl rfl rfl (gives_loadR (off := o14 + i * 17) rfl rfl prsag47 prssz47 (rs_cel.len x14) (fun w1 hw j9 u9 h9 => (hw.bel.cell hbb14).trans <| flat_cell rs_cel hx14 hc14 j9 u9 h9)) ?_
     refine TL.prowS (e := 47) (size := 17) (cs := flat Rs.cells [x14]) rfl rfl rfl rfl rfl (fun w => porbs26_1_99505 _ _ _ _ _ _ _ _ _ _ _ _ _ _ _ _ _ w) (by decide) rfl (fun g57 => ?_)
     refine TL.appendT (k := 1) rfl rfl rfl rfl Tryz.underlying26 porel26 rfl rfl rfl (fun w1 hw => pm_reads hw (k := 0) rfl) (flat_one rs_cel _) (by show _ * 128 ≤ _; omega) (m + 1) (rfl) (flat Rs.cells (out ++ [x14])) ((flat_app _ _).symm) (fun A58 c58 hA581 hA582 => ?_)
     refine TL.as_ ?_
     refine TL.end_ (TX.then_ (TC.seq_ ?_))
     have hn1 : (out ++ [x14]).length = out.length + 1 := by simp
     have hn2 : (shiftL (out ++ [x14]) k).length = out.length + 1 := by rw [shiftL_len _ _ (by omega), hn1]
     refine TC.fact (p := ∃ g, A58 = some ⟨g, 0, none⟩) (fun w1 hw => rowA hw (k := 1) rfl (by simp)) ?_
     rintro ⟨g_A58, rfl⟩
     refine TC.tail 7 (by kernel_rfl) (by kernel_rfl) (fun w hw => hw.drawn _) ?_
     refine TS.val rfl rfl rfl (gives_move rfl rfl) ?_
     refine TS.val rfl rfl rfl (gives_move rfl rfl) ?_
     refine TS.val rfl rfl rfl (gives_bin rfl rfl rfl (fun w => bin_add_ (r := ((k + 1 : Nat) : Int)) (by simp only [IntKind.wrap_i64]; omega) w)) ?_
     refine TS.val rfl rfl rfl (gives_sliceL (v := .slice (if c58 = k + 1 then some ⟨g_A58, 0, none⟩ else (some (⟨g_A58, 0, none⟩ : Addr)).map (·.add ((k + 1) * 17))) ((m + 1) - (k + 1)) (c58 - (k + 1))) rfl rfl rfl (fun w => cut_lo Tryz.underlying26 prssz47 _ _ _ (k + 1) rfl (by omega) w)) ?_
     refine TS.val rfl rfl rfl (gives_move rfl rfl) ?_
     refine TS.val rfl rfl rfl (gives_move rfl rfl) ?_
     refine TS.val rfl rfl rfl (gives_tailF (q := k) rfl rfl rfl rfl Tryz.underlying26 prssz47 (by omega) (by omega)) ?_
     refine TS.end_ ?_
     refine TL.shiftF rs_cel (kk := 1) (k := k) rfl rfl rfl rfl Tryz.underlying26 prssz47 rfl rfl rfl (by omega) (by omega) (by omega) ?_
     try dsimp only [List.set_cons_zero, List.set_cons_succ]
     refine TL.end_ (TX.then_ (TC.region ?_))
     iterate 4 (first | refine TL.mv ?_)
     refine TL.val rfl rfl rfl (gives_at (v := .pointer (some ⟨b14, o14 + i * 17, none⟩)) rfl rfl rfl (fun w => at_el Tryz.underlying26 prssz47 hA14 _ _ i (by omega) rfl w)) ?_
     refine TL.val rfl rfl rfl (gives_loadR (off := o14 + i * 17) rfl rfl prsag47 prssz47 (rs_cel.len x14) (fun w1 hw j9 u9 h9 => (hw.bel.cell hbb14).trans <| flat_cell rs_cel hx14 hc14 j9 u9 h9)) ?_
     have hi73 : k < (shiftL (out ++ [x14]) k).length := by omega
     obtain ⟨x73, hx73⟩ : ∃ x73, (shiftL (out ++ [x14]) k)[k]? = some x73 := ⟨_, List.getElem?_eq_getElem hi73⟩
     refine TL.val rfl rfl rfl (gives_at (v := .pointer (some ⟨g_A58, 0 + k * 17, none⟩)) rfl rfl rfl (fun w => at_el Tryz.underlying26 prssz47 rfl _ _ k (by omega) rfl w)) ?_
     refine TL.rowset (k := 1) (vs := x14.cells) (xs' := flat Rs.cells ((shiftL (out ++ [x14]) k).set k x14)) rfl rfl rfl rfl rfl rfl rfl prssz47 (rs_cel.one _) (by rw [flat_len rs_cel]; show 0 + k * 17 + 17 ≤ _; omega) (flat_put rs_cel (q := 0) (y := x14) hx73 (by show 0 + 17 ≤ 17; decide) rfl) ?_
     try dsimp only [List.set_cons_zero, List.set_cons_succ]
     refine TL.end_ (TX.in_normal (TX.then_ (TC.region ?_)))
     refine TL.mv ?_
     refine TL.val rfl rfl rfl (gives_bin rfl rfl rfl (fun w => bin_add_ (r := ((i + 1 : Nat) : Int)) (by simp only [IntKind.wrap_i64]; omega) w)) ?_
     refine TL.as_ ?_
     refine TL.end_ ?_
     exact TX.round (⟨(i + 1, ((some ⟨g_A58, 0, none⟩), c58), m + 1, (shiftL (out ++ [x14]) k).set k x14), by dsimp only; omega, by dsimp only; rw [shiftL_at _ _ _ _ (by omega)]; exact hout.put hx14 h16 (fun z hz => by rw [hk0, List.take_zero] at hz; cases hz) hgt, by dsimp only; omega, hA581, hA582, by dsimp only; rw [List.length_set]; omega⟩) (by show l.length - (i + 1) < l.length - i; omega) ⟨rfl, rfl, rfl, rfl, trivial⟩ (fun w1 hw => hw.pick [1] (by decide) rfl)
   ·refine TC.fact (p := ∃ g, Ao = some ⟨g, 0, none⟩) (fun w1 hw => rowA hw (k := 0) rfl (by omega)) ?_
    rintro ⟨g_Ao, rfl⟩
    refine TC.quietQ (by kernel_rfl) (by kernel_rfl) (fun w hw => hw.drawn _) ?_
    refine TQ.val rfl rfl rfl (gives_move rfl rfl) ?_
    refine TQ.val rfl rfl rfl (gives_bin rfl rfl rfl (fun w => bin_gtr_t (by omega) w)) ?_
    iterate 6 (first | refine TQ.val rfl rfl rfl (gives_move rfl rfl) ?_ | refine TQ.on rfl rfl rfl ?_)
    refine TQ.val rfl rfl rfl (gives_bin rfl rfl rfl (fun w => bin_sub_ (r := ((k - 1 : Nat) : Int)) (by simp only [IntKind.wrap_i64]; omega) w)) ?_
    refine TQ.on rfl rfl rfl ?_
    have hi26 : k - 1 < out.length := by omega
    obtain ⟨x26, hx26⟩ : ∃ x26, out[k - 1]? = some x26 := ⟨_, List.getElem?_eq_getElem hi26⟩
    refine TQ.val rfl rfl rfl (gives_at (v := .pointer (some ⟨g_Ao, 0 + (k - 1) * 17, none⟩)) rfl rfl rfl (fun w => at_el Tryz.underlying26 prssz47 rfl _ _ (k - 1) (by omega) rfl w)) ?_
    refine TQ.on rfl rfl rfl ?_
    refine TQ.val rfl rfl rfl (gives_loadR (off := 0 + (k - 1) * 17) rfl rfl prsag47 prssz47 (rs_cel.len x26) (fun w1 hw j9 u9 h9 => flat_row rs_cel hw (q := 0) rfl hx26 j9 u9 h9)) ?_
    iterate 5 (first | refine TQ.on rfl rfl rfl ?_ | refine TQ.val rfl rfl rfl (gives_move rfl rfl) ?_)
    refine TQ.val rfl rfl rfl (gives_at (v := .pointer (some ⟨b14, o14 + i * 17, none⟩)) rfl rfl rfl (fun w => at_el Tryz.underlying26 prssz47 hA14 _ _ i (by omega) rfl w)) ?_
    refine TQ.on rfl rfl rfl ?_
    refine TQ.val rfl rfl rfl (gives_loadR (off := o14 + i * 17) rfl rfl prsag47 prssz47 (rs_cel.len x14) (fun w1 hw j9 u9 h9 => (hw.bel.cell hbb14).trans <| flat_cell rs_cel hx14 hc14 j9 u9 h9)) ?_
    refine TQ.on rfl rfl rfl ?_
    refine TQ.call (v := .int .i64 (cmpRs x26 x14)) rfl rfl rfl rfl rfl Tryz.func32 pronm32 probd32 (fun w1 hw => (rcmpRs_any x26 x14 w1).mono fun en w2 ⟨h1, h2⟩ => ⟨h1, hw.below h2⟩) ?_
    refine TQ.on rfl rfl rfl ?_
    refine TQ.vsplit rfl rfl rfl (gives_bin rfl rfl rfl (fun w => bin_gtr w)) (fun h33 => ?_) (fun h33 => ?_)
    ·have q33 := of_decide_eq_true h33
     have hgt2 : ∀ z ∈ out.drop (k - 1), lexI x14.keys z.keys < 0 := ascK_behind keys_len hout.1 hx26 ((posK keys_len).1 q33)
     refine TQ.val rfl rfl rfl (gives_pick rfl rfl rfl) ?_
     refine TQ.fin ?_
     refine TX.then_ (TC.condT rfl (TC.skip_ (TX.then_ (TC.block (TC.region ?_)))))
     refine TL.mv ?_
     refine TL.val rfl rfl rfl (gives_bin rfl rfl rfl (fun w => bin_sub_ (r := ((k - 1 : Nat) : Int)) (by simp only [IntKind.wrap_i64]; omega) w)) ?_
     refine TL.as_ ?_
     refine TL.end_ (TX.in_normal ?_)
     exact TX.round (⟨k - 1, by omega, hgt2⟩) (by show k - 1 < k; omega) ⟨rfl, rfl, rfl, rfl, rfl, trivial⟩ (fun w1 hw => hw)
    ·have q33 := of_decide_eq_false h33
     refine TQ.val rfl rfl rfl (gives_pick rfl rfl rfl) ?_
     refine TQ.fin ?_
     refine TX.then_ (TC.condF rfl (TC.exit_ (TX.then_exit (TX.then_exit (TX.in_same (TX.then_ (TC.seq_ (TC.seq_ ?_))))))))
     ·refine TC.quietQ (by kernel_rfl) (by kernel_rfl) (fun w hw => hw.drawn _) ?_
      refine TQ.val rfl rfl rfl (gives_move rfl rfl) ?_
      refine TQ.val rfl rfl rfl (gives_bin rfl rfl rfl (fun w => bin_gtr_t (by omega) w)) ?_
      iterate 6 (first | refine TQ.val rfl rfl rfl (gives_move rfl rfl) ?_ | refine TQ.on rfl rfl rfl ?_)
      refine TQ.val rfl rfl rfl (gives_bin rfl rfl rfl (fun w => bin_sub_ (r := ((k - 1 : Nat) : Int)) (by simp only [IntKind.wrap_i64]; omega) w)) ?_
      refine TQ.on rfl rfl rfl ?_
      refine TQ.val rfl rfl rfl (gives_at (v := .pointer (some ⟨g_Ao, 0 + (k - 1) * 17, none⟩)) rfl rfl rfl (fun w => at_el Tryz.underlying26 prssz47 rfl _ _ (k - 1) (by omega) rfl w)) ?_
      refine TQ.on rfl rfl rfl ?_
      refine TQ.val rfl rfl rfl (gives_loadR (off := 0 + (k - 1) * 17) rfl rfl prsag47 prssz47 (rs_cel.len x26) (fun w1 hw j9 u9 h9 => flat_row rs_cel hw (q := 0) rfl hx26 j9 u9 h9)) ?_
      iterate 5 (first | refine TQ.on rfl rfl rfl ?_ | refine TQ.val rfl rfl rfl (gives_move rfl rfl) ?_)
      refine TQ.val rfl rfl rfl (gives_at (v := .pointer (some ⟨b14, o14 + i * 17, none⟩)) rfl rfl rfl (fun w => at_el Tryz.underlying26 prssz47 hA14 _ _ i (by omega) rfl w)) ?_
      refine TQ.on rfl rfl rfl ?_
      refine TQ.val rfl rfl rfl (gives_loadR (off := o14 + i * 17) rfl rfl prsag47 prssz47 (rs_cel.len x14) (fun w1 hw j9 u9 h9 => (hw.bel.cell hbb14).trans <| flat_cell rs_cel hx14 hc14 j9 u9 h9)) ?_
      refine TQ.on rfl rfl rfl ?_
      refine TQ.call (v := .int .i64 (cmpRs x26 x14)) rfl rfl rfl rfl rfl Tryz.func32 pronm32 probd32 (fun w1 hw => (rcmpRs_any x26 x14 w1).mono fun en w2 ⟨h1, h2⟩ => ⟨h1, hw.below h2⟩) ?_
      refine TQ.on rfl rfl rfl ?_
      refine TQ.vsplit rfl rfl rfl (gives_bin rfl rfl rfl (fun w => bin_eql w)) (fun h50 => ?_) (fun h50 => ?_)
      ·have q50 := of_decide_eq_true h50
       refine TQ.val rfl rfl rfl (gives_pick rfl rfl rfl) ?_
       refine TQ.fin ?_
       refine TX.then_ (TC.condT rfl (TC.exit_ (TX.then_exit (TX.in_same (TX.then_ (TC.region ?_))))))
       refine TL.mv ?_
       refine TL.val rfl rfl rfl (gives_bin rfl rfl rfl (fun w => bin_add_ (r := ((i + 1 : Nat) : Int)) (by simp only [IntKind.wrap_i64]; omega) w)) ?_
       refine TL.as_ ?_
       refine TL.end_ ?_
       exact TX.round (⟨(i + 1, ((some ⟨g_Ao, 0, none⟩), co), m, out), by dsimp only; omega, hout.dup hx14 h16 hok hx26 (by exact q50), by dsimp only; omega, houtc, houtm, houtn⟩) (by show l.length - (i + 1) < l.length - i; omega) ⟨rfl, rfl, rfl, rfl, trivial⟩ (fun w1 hw => hw)
      ·have q50 := of_decide_eq_false h50
       refine TQ.val rfl rfl rfl (gives_pick rfl rfl rfl) ?_
       refine TQ.fin ?_
       refine TX.then_ (TC.condF rfl (TC.skip_ (TX.then_ (TC.seq_ (TC.region ?_)))))
       refine TL.mv ?_
       refine TL.mv ?_
       refine TL.mv ?_
       refine TL.val rfl rfl rfl (gives_at (v := .pointer (some ⟨b14, o14 + i * 17, none⟩)) rfl rfl rfl (fun w => at_el Tryz.underlying26 prssz47 hA14 _ _ i (by omega) rfl w)) ?_
       refine TL.val rfl rfl rfl (gives_loadR (off := o14 + i * 17) rfl rfl prsag47 prssz47 (rs_cel.len x14) (fun w1 hw j9 u9 h9 => (hw.bel.cell hbb14).trans <| flat_cell rs_cel hx14 hc14 j9 u9 h9)) ?_
       refine TL.prowS (e := 47) (size := 17) (cs := flat Rs.cells [x14]) rfl rfl rfl rfl rfl (fun w => porbs26_1_99505 _ _ _ _ _ _ _ _ _ _ _ _ _ _ _ _ _ w) (by decide) rfl (fun g57 => ?_)
       refine TL.appendT (k := 1) rfl rfl rfl rfl Tryz.underlying26 porel26 rfl rfl rfl (fun w1 hw => pm_reads hw (k := 0) rfl) (flat_one rs_cel _) (by show _ * 128 ≤ _; omega) (m + 1) (rfl) (flat Rs.cells (out ++ [x14])) ((flat_app _ _).symm) (fun A58 c58 hA581 hA582 => ?_)
       refine TL.as_ ?_
       refine TL.end_ (TX.then_ (TC.seq_ ?_))
       have hn1 : (out ++ [x14]).length = out.length + 1 := by simp
       have hn2 : (shiftL (out ++ [x14]) k).length = out.length + 1 := by rw [shiftL_len _ _ (by omega), hn1]
       refine TC.fact (p := ∃ g, A58 = some ⟨g, 0, none⟩) (fun w1 hw => rowA hw (k := 1) rfl (by simp)) ?_
       rintro ⟨g_A58, rfl⟩
       refine TC.tail 7 (by kernel_rfl) (by kernel_rfl) (fun w hw => hw.drawn _) ?_
       refine TS.val rfl rfl rfl (gives_move rfl rfl) ?_
       refine TS.val rfl rfl rfl (gives_move rfl rfl) ?_
       refine TS.val rfl rfl rfl (gives_bin rfl rfl rfl (fun w => bin_add_ (r := ((k + 1 : Nat) : Int)) (by simp only [IntKind.wrap_i64]; omega) w)) ?_
       refine TS.val rfl rfl rfl (gives_sliceL (v := .slice (if c58 = k + 1 then some ⟨g_A58, 0, none⟩ else (some (⟨g_A58, 0, none⟩ : Addr)).map (·.add ((k + 1) * 17))) ((m + 1) - (k + 1)) (c58 - (k + 1))) rfl rfl rfl (fun w => cut_lo Tryz.underlying26 prssz47 _ _ _ (k + 1) rfl (by omega) w)) ?_
       refine TS.val rfl rfl rfl (gives_move rfl rfl) ?_
       refine TS.val rfl rfl rfl (gives_move rfl rfl) ?_
       refine TS.val rfl rfl rfl (gives_tailF (q := k) rfl rfl rfl rfl Tryz.underlying26 prssz47 (by omega) (by omega)) ?_
       refine TS.end_ ?_
       refine TL.shiftF rs_cel (kk := 1) (k := k) rfl rfl rfl rfl Tryz.underlying26 prssz47 rfl rfl rfl (by omega) (by omega) (by omega) ?_
       try dsimp only [List.set_cons_zero, List.set_cons_succ]
       refine TL.end_ (TX.then_ (TC.region ?_))
       iterate 4 (first | refine TL.mv ?_)
       refine TL.val rfl rfl rfl (gives_at (v := .pointer (some ⟨b14, o14 + i * 17, none⟩)) rfl rfl rfl (fun w => at_el Tryz.underlying26 prssz47 hA14 _ _ i (by omega) rfl w)) ?_
       refine TL.val rfl rfl rfl (gives_loadR (off := o14 + i * 17) rfl rfl prsag47 prssz47 (rs_cel.len x14) (fun w1 hw j9 u9 h9 => (hw.bel.cell hbb14).trans <| flat_cell rs_cel hx14 hc14 j9 u9 h9)) ?_
       have hi73 : k < (shiftL (out ++ [x14]) k).length := by omega
       obtain ⟨x73, hx73⟩ : ∃ x73, (shiftL (out ++ [x14]) k)[k]? = some x73 := ⟨_, List.getElem?_eq_getElem hi73⟩
       refine TL.val rfl rfl rfl (gives_at (v := .pointer (some ⟨g_A58, 0 + k * 17, none⟩)) rfl rfl rfl (fun w => at_el Tryz.underlying26 prssz47 rfl _ _ k (by omega) rfl w)) ?_
       refine TL.rowset (k := 1) (vs := x14.cells) (xs' := flat Rs.cells ((shiftL (out ++ [x14]) k).set k x14)) rfl rfl rfl rfl rfl rfl rfl prssz47 (rs_cel.one _) (by rw [flat_len rs_cel]; show 0 + k * 17 + 17 ≤ _; omega) (flat_put rs_cel (q := 0) (y := x14) hx73 (by show 0 + 17 ≤ 17; decide) rfl) ?_
       try dsimp only [List.set_cons_zero, List.set_cons_succ]
       refine TL.end_ (TX.in_normal (TX.then_ (TC.region ?_)))
       refine TL.mv ?_
       refine TL.val rfl rfl rfl (gives_bin rfl rfl rfl (fun w => bin_add_ (r := ((i + 1 : Nat) : Int)) (by simp only [IntKind.wrap_i64]; omega) w)) ?_
       refine TL.as_ ?_
       refine TL.end_ ?_
       exact TX.round (⟨(i + 1, ((some ⟨g_A58, 0, none⟩), c58), m + 1, (shiftL (out ++ [x14]) k).set k x14), by dsimp only; omega, by dsimp only; rw [shiftL_at _ _ _ _ (by omega)]; exact hout.put hx14 h16 (fun z hz => ascK_ahead keys_len hout.1 hx26 (by have := q33; have := q50; show cmpRs _ _ < 0; omega) z (by rwa [Nat.sub_add_cancel (by omega)])) hgt, by dsimp only; omega, hA581, hA582, by dsimp only; rw [List.length_set]; omega⟩) (by show l.length - (i + 1) < l.length - i; omega) ⟨rfl, rfl, rfl, rfl, trivial⟩ (fun w1 hw => hw.pick [1] (by decide) rfl)
  ·refine TL.val rfl rfl rfl (gives_boolnot rfl rfl) ?_
   refine TL.end_ (TX.then_ (TC.condT rfl (TC.exit_ (TX.then_exit (TX.in_same (TX.then_ (TC.region ?_)))))))
   refine TL.mv ?_
   refine TL.val rfl rfl rfl (gives_bin rfl rfl rfl (fun w => bin_add_ (r := ((i + 1 : Nat) : Int)) (by simp only [IntKind.wrap_i64]; omega) w)) ?_
   refine TL.as_ ?_
   refine TL.end_ ?_
   exact TX.round (⟨(i + 1, (Ao, co), m, out), by dsimp only; omega, hout.skip hx14 h16, by dsimp only; omega, houtc, houtm, houtn⟩) (by show l.length - (i + 1) < l.length - i; omega) ⟨rfl, rfl, rfl, rfl, trivial⟩ (fun w1 hw => hw)
 ·have q9 := of_decide_eq_false h9
  refine TL.end_ (TX.then_ (TC.condF rfl (TC.exit_ (TX.then_exit (TX.then_exit (TX.in_same (TX.then_ (TC.seq_ (TC.region ?_)))))))))
  refine TL.mv ?_
  refine TL.as_ ?_
  refine TL.end_ (TX.then_ (TC.ret_ ?_))
  subst houtn
  exact ret_tmp Tryz.results41 rfl (fun w1 hw => ⟨⟨((Ao, co), out), by rw [List.take_of_length_le (by omega)] at hout; exact hout, by dsimp only; omega, houtm⟩, rfl, hw.pick [0] (by decide) rfl⟩)
set_option maxRecDepth 20000
theorem mapf_snoc_t {α β : Type} {p : α → Bool} {f : α → β} {l : List α} {out : List β} {i : Nat} {x : α} (hx : l[i]? = some x) (h : p x = true) (ho : ((l.take i).filter p).map f = out) : ((l.take (i + 1)).filter p).map f = out ++ [f x] := by
 rw [List.take_add_one, hx, List.filter_append, List.map_append, ho]
 simp [h]
theorem mapf_snoc_f {α β : Type} {p : α → Bool} {f : α → β} {l : List α} {out : List β} {i : Nat} {x : α} (hx : l[i]? = some x) (h : p x = false) (ho : ((l.take i).filter p).map f = out) : ((l.take (i + 1)).filter p).map f = out := by
 rw [List.take_add_one, hx, List.filter_append, List.map_append, ho]
 simp [h]
def trk (t : Trc) : List Int := [t.v, t.dst, t.proto]
theorem trk_len (t : Trc) : (trk t).length = 3 := rfl
theorem trk_inj {x y : Trc} (h : trk x = trk y) : x = y := by
 obtain ⟨a, b, c⟩ := x
 obtain ⟨a', b', c'⟩ := y
 simp only [trk, List.cons.injEq, and_true] at h
 obtain ⟨h1, h2, h3⟩ := h
 subst h1 h2 h3
 rfl
def IsTrc (l : List Rs) (o : List Trc) : Prop := AscK trk o ∧ ∀ t, t ∈ o ↔ ∃ r ∈ l, vldRs r = true ∧ trcR r = t
theorem IsTrc.eq {l : List Rs} {o o' : List Trc} (h : IsTrc l o) (h' : IsTrc l o') : o = o' := ascK_eq trk_len h.1 h'.1 fun x => by rw [h.2, h'.2]
theorem isTrc_of {l : List Rs} {o s : List Trc} (ho : (l.filter vldRs).map trcR = o) (hs : Sorted cmpT o s) : IsTrc l (cptG s) := by
 refine ⟨cptG_asc trk_len s hs.2 fun x hx y hy h => trk_inj h, fun t => ?_⟩
 rw [mem_cptG, hs.1.mem_iff, ← ho, List.mem_map]
 constructor
 ·rintro ⟨r, hr, e⟩
  have := List.mem_filter.1 hr
  exact ⟨r, this.1, this.2, e⟩
 ·rintro ⟨r, h1, h2, e⟩
  exact ⟨r, List.mem_filter.2 ⟨h1, h2⟩, e⟩
def pairsT (a b : Trc) : List (Int × Int) := [(a.v, b.v), (IntKind.i64.wrap a.dst, IntKind.i64.wrap b.dst), (a.proto, b.proto)]
def rcmpT (a b : Trc) : Int := orP (pairsT a b)
theorem rcmpT_pairs (a b : Trc) : rcmpT a b = orP (pairsT a b) := rfl
theorem rcmpT_eq {a b : Trc} (h1 : 0 ≤ a.dst) (h2 : a.dst ≤ 4294967295) (h3 : 0 ≤ b.dst) (h4 : b.dst ≤ 4294967295) : rcmpT a b = lexI (trk a) (trk b) := by
 have w1 : ∀ z : Int, 0 ≤ z → z ≤ 4294967295 → IntKind.i64.wrap z = z := fun z h0 h1 => by simp only [IntKind.wrap_i64]; omega
 rw [rcmpT, pairsT, w1 _ h1 h2, w1 _ h3 h4]
 rfl
theorem IsTrc.nil : IsTrc [] [] := ⟨List.Pairwise.nil, fun x => by simp⟩
section
variable {l : List Rs} {o : List Trc} {i q : Nat} {x : Rs}
theorem IsTrc.skip (h : IsTrc (l.take i) o) (hx : l[i]? = some x) (hv : vldRs x = false) : IsTrc (l.take (i + 1)) o := ⟨h.1, fun t => by
 rw [h.2]
 constructor
 ·rintro ⟨r, h1, h2⟩
  exact ⟨r, (mem_take_snoc hx).2 (.inl h1), h2⟩
 ·rintro ⟨r, h1, h2, h3⟩
  rcases (mem_take_snoc hx).1 h1 with h4 | h4
  ·exact ⟨r, h4, h2, h3⟩
  ·rw [h4, hv] at h2; cases h2⟩
theorem IsTrc.dup (h : IsTrc (l.take i) o) (hx : l[i]? = some x) (hv : vldRs x = true) (hm : trcR x ∈ o) : IsTrc (l.take (i + 1)) o := ⟨h.1, fun t => by
 constructor
 ·intro ht
  obtain ⟨r, h1, h2⟩ := (h.2 t).1 ht
  exact ⟨r, (mem_take_snoc hx).2 (.inl h1), h2⟩
 ·rintro ⟨r, h1, h2, h3⟩
  rcases (mem_take_snoc hx).1 h1 with h4 | h4
  ·exact (h.2 t).2 ⟨r, h4, h2, h3⟩
  ·rw [← h3, h4]; exact hm⟩
theorem IsTrc.put (h : IsTrc (l.take i) o) (hx : l[i]? = some x) (hv : vldRs x = true) (h1 : ∀ y ∈ o.take q, lexI (trk y) (trk (trcR x)) < 0) (h2 : ∀ y ∈ o.drop q, lexI (trk (trcR x)) (trk y) < 0) : IsTrc (l.take (i + 1)) (o.take q ++ trcR x :: o.drop q) := by
 refine ⟨ascK_put trk_len h.1 h1 h2, fun t => ?_⟩
 rw [mem_put, h.2]
 constructor
 ·rintro (⟨r, h3, h4⟩ | hh)
  ·exact ⟨r, (mem_take_snoc hx).2 (.inl h3), h4⟩
  ·exact ⟨x, (mem_take_snoc hx).2 (.inr rfl), hv, hh.symm⟩
 ·rintro ⟨r, h3, h4, h5⟩
  rcases (mem_take_snoc hx).1 h3 with h6 | h6
  ·exact .inl ⟨r, h6, h4, h5⟩
  ·rw [h6] at h5; exact .inr h5.symm
theorem IsTrc.rng (h : IsTrc (l.take i) o) (hok : ∀ r ∈ l, r.Ok) {y : Trc} (hy : y ∈ o) : 0 ≤ y.dst ∧ y.dst ≤ 4294967295 := by
 obtain ⟨r, h1, _, h3⟩ := (h.2 y).1 hy
 have := hok r (List.mem_of_mem_take h1)
 rw [← h3]
 exact ⟨this.1, this.2.1⟩
theorem IsTrc.cmp (h : IsTrc (l.take i) o) (hx : l[i]? = some x) (hok : ∀ r ∈ l, r.Ok) {y : Trc} (hy : y ∈ o) : rcmpT y (trcR x) = lexI (trk y) (trk (trcR x)) := by
 have h1 := h.rng hok hy
 have h2 := hok x (List.mem_of_getElem? hx)
 exact rcmpT_eq h1.1 h1.2 h2.1 h2.2.1
theorem IsTrc.lt (h : IsTrc (l.take i) o) (hx : l[i]? = some x) (hok : ∀ r ∈ l, r.Ok) {y : Trc} (hy : y ∈ o) (hc : rcmpT y (trcR x) < 0) : lexI (trk y) (trk (trcR x)) < 0 := by rw [← h.cmp hx hok hy]; exact hc
theorem IsTrc.gt (h : IsTrc (l.take i) o) (hx : l[i]? = some x) (hok : ∀ r ∈ l, r.Ok) {y : Trc} (hy : y ∈ o) (hc : ¬ rcmpT y (trcR x) < 0) (hne : ¬ y = trcR x) : lexI (trk (trcR x)) (trk y) < 0 := by
 rw [h.cmp hx hok hy] at hc
 have h1 : lexI (trk y) (trk (trcR x)) ≠ 0 := fun h0 => hne (trk_inj ((lexI_zero (a := trk y) (b := trk (trcR x)) rfl).1 h0))
 exact (posK trk_len).1 (by omega)
end
theorem ptrnm35 : (Tryz.f35.name == "runtime.NumGoroutine") = false := by decide
theorem ptrbd35 : Tryz.f35.body.isNone = false := rfl
theorem ptrbs73_1_44646 (a0_0 : Int) (a0_1 : Int) (a0_2 : Int) (w : World) : (Instr.buildSlice 73 1 #[(0, .agg #[.int .i64 a0_0, .int .u32 a0_1, .int .i64 a0_2])]).run Tryz.prog w = .ok (.slice (some ⟨w.heap.size, 0, none⟩) 1 1) (w.alloc (.cells [.int .i64 a0_0, .int .u32 a0_1, .int .i64 a0_2].toArray 32)) := by kernel_rfl
theorem ptrel73 : Elem Tryz.prog 73 32 3 24 := Elem.mk' Tryz.underlying73 (z := .agg #[.int .i64 0, .int .u32 0, .int .i64 0]) (by kernel_rfl) rfl (by omega) (by omega)
theorem ptrnm83 : (Tryz.f83.name == "runtime.NumGoroutine") = false := by decide
theorem ptrbd83 : Tryz.f83.body.isNone = false := rfl
theorem ptrnm85 : (Tryz.f85.name == "runtime.NumGoroutine") = false := by decide
theorem ptrbd85 : Tryz.f85.body.isNone = false := rfl
theorem ptrbld161_19242 (a0_0 : Int) (a0_1 : Int) (a1_0 : Int) (a1_1 : Int) (a2_0 : Int) (a2_1 : Int) (w : World) : (Instr.build 161 #[(0, .agg #[.int .i64 a0_0, .int .i64 a0_1]), (1, .agg #[.int .i64 a1_0, .int .i64 a1_1]), (2, .agg #[.int .i64 a2_0, .int .i64 a2_1])]).run Tryz.prog w = .ok (.agg #[.int .i64 a0_0, .int .i64 a0_1, .int .i64 a1_0, .int .i64 a1_1, .int .i64 a2_0, .int .i64 a2_1]) w := by kernel_rfl
theorem ptrnm36 : (Tryz.f36.name == "runtime.NumGoroutine") = false := by decide
theorem ptrbd36 : Tryz.f36.body.isNone = false := rfl
theorem ptrnm86 : (Tryz.f86.name == "runtime.NumGoroutine") = false := by decide
theorem ptrbd86 : Tryz.f86.body.isNone = false := rfl
set_option maxHeartbeats 1000000 in
theorem trs_any (A0 : Option Addr) (c0 : Nat) (l : List Rs) (w : World) (hr : Reads w w.heap.size 17 A0 l.length (flat Rs.cells l)) (hl1 : l.length ≤ 100000) :
  Calls Tryz.prog 37 #[.slice A0 l.length c0] w fun e w' => ∃ x : {y : (Option Addr × Nat) × List Trc // IsTrc l y.2 ∧ y.2.length ≤ y.1.2 ∧ y.1.2 ≤ maxLen}, e = .returned (.slice x.1.1.1 x.1.2.length x.1.1.2) ∧ Pm w [.row (.slice x.1.1.1 x.1.2.length x.1.1.2) 32 3 x.1.2.length (flat Trc.cells x.1.2)] w' := by
 refine begin_ (vs := [.slice A0 l.length c0]) Tryz.func37 rfl rfl rfl ?_ (Pm.start w)
 refine TC.seq_ (TC.region ?_)
 refine TL.as_ ?_
 refine TL.end_ (TX.then_ (TC.seq_ (TC.region ?_)))
 refine TL.as_ ?_
 refine TL.end_ (TX.then_ (TC.seq_ (TC.seq_ (TC.region ?_))))
 refine TL.mv ?_
 refine TL.val rfl rfl rfl (gives_len rfl Tryz.underlying26 rfl) ?_
 refine TL.mv ?_
 refine TL.end_ (TX.then_ (TC.block ?_))
 refine TC.nilrow 32 3 ?_
 refine TC.loop_ (α := {y : Nat × (Option Addr × Nat) × List Trc // y.1 ≤ l.length ∧ (((l.take y.1).filter vldRs).map trcR = y.2.2) ∧ y.2.2.length ≤ y.1 ∧ y.2.2.length ≤ y.2.1.2 ∧ y.2.1.2 ≤ maxLen}) (fun y => [(2, .slice none 0 0), (6, .slice A0 l.length c0), (7, .int .i64 (l.length : Nat)), (8, .int .i64 ((y.1.1 : Nat) : Int)), (3, .slice y.1.2.1.1 y.1.2.2.length y.1.2.1.2)]) (fun y => Pm w [.row (.slice y.1.2.1.1 y.1.2.2.length y.1.2.1.2) 32 3 y.1.2.2.length (flat Trc.cells y.1.2.2)]) (fun y => l.length - y.1.1) (⟨(0, (none, 0), []), Nat.zero_le _, rfl, Nat.le_refl _, Nat.le_refl _, Nat.zero_le _⟩) ⟨rfl, rfl, rfl, rfl, rfl, trivial⟩ (fun w1 hw => hw) ?_
 rintro ⟨⟨i, ⟨Ao, co⟩, out⟩, hi, hout, houtl, houtc, houtm⟩
 dsimp only at hi hout houtl houtc houtm ⊢
 refine TC.seq_ (TC.region ?_)
 refine TL.vsplit rfl rfl rfl (gives_bin rfl rfl rfl (fun w => bin_lss w)) (fun h9 => ?_) (fun h9 => ?_)
 ·have q9 := of_decide_eq_true h9
  refine TL.end_ (TX.then_ (TC.seq_ (TC.condT rfl (TC.skip_ (TX.then_ (TC.seq_ (TC.block (TC.seq_ (TC.region ?_)))))))))
  have hi10 : i < l.length := by omega
  obtain ⟨x10, hx10⟩ : ∃ x10, l[i]? = some x10 := ⟨_, List.getElem?_eq_getElem hi10⟩
  obtain ⟨b10, o10, hA10, hbb10, hc10⟩ := hr.ad (by omega) (by decide)
  refine TL.val rfl rfl rfl (gives_at (v := .pointer (some ⟨b10, o10 + i * 17, none⟩)) rfl rfl rfl (fun w => at_el Tryz.underlying26 prssz47 hA10 _ _ i (by omega) rfl w)) ?_
  refine TL.val rfl rfl rfl (gives_loadR (off := o10 + i * 17) rfl rfl prsag47 prssz47 (rs_cel.len x10) (fun w1 hw j9 u9 h9 => (hw.bel.cell hbb10).trans <| flat_cell rs_cel hx10 hc10 j9 u9 h9)) ?_
  refine TL.pnew rfl rfl rfl (exec_alloc (cs := [.int .i64 0, .int .i64 0, .int .i64 0, .int .i64 0, .int .u32 0, .int .i64 0, .int .i64 0, .int .i64 0, .bool false, .bool false, .int .i64 0, .int .u32 0, .int .i64 0, .int .i64 0, .int .i64 0, .int .i64 0, .int .i64 0]) rfl pcpzv47 rfl) (fun g5 => ?_)
  refine TL.pstore (k := 0) (vs := x10.cells) rfl rfl rfl rfl rfl rfl rfl prssz47 (rs_cel.one _) (by show 17 ≤ 17; decide) (L' := [.blk g5 47 x10.cells, .row (.slice Ao out.length co) 32 3 out.length (flat Trc.cells out)]) rfl ?_
  refine TL.end_ (TX.then_ (TC.seq_ (TC.region ?_)))
  refine TL.val rfl rfl rfl (pm_loadV (k := 0) (i := 0) (n := 17) (v := .agg (x10.cells).toArray) rfl rfl prsag47 prssz47 rfl (by show 17 ≤ 17; decide) rfl) ?_
  refine TL.callsplit rfl rfl rfl rfl rfl Tryz.func26 prsnm26 prsbd26 (fun w1 hw => vldRs_any x10 w1) (fun h13 => ?_) (fun h13 => ?_)
  ·refine TL.end_ (TX.then_ (TC.condT rfl (TC.region ?_)))
   refine TL.mv ?_
   refine TL.val rfl rfl rfl (pm_loadV (k := 0) (i := 0) (n := 17) (v := .agg (x10.cells).toArray) rfl rfl prsag47 prssz47 rfl (by show 17 ≤ 17; decide) rfl) ?_
   refine TL.pcall1 (r := .agg ((trcR x10).cells).toArray) rfl rfl rfl rfl rfl Tryz.func35 ptrnm35 ptrbd35 (fun w1 hw => trc_any x10 w1) ?_
   refine TL.prowS (e := 32) (size := 3) (cs := flat Trc.cells [trcR x10]) rfl rfl rfl rfl rfl (fun w => ptrbs73_1_44646 _ _ _ w) (by decide) rfl (fun g17 => ?_)
   refine TL.appendT (k := 2) rfl rfl rfl rfl Tryz.underlying73 ptrel73 rfl rfl rfl (fun w1 hw => pm_reads hw (k := 0) rfl) (flat_one trc_cel _) (by show _ * 24 ≤ _; omega) ((out ++ [trcR x10]).length) (by rw [List.length_append]; rfl) (flat Trc.cells (out ++ [trcR x10])) ((flat_app _ _).symm) (fun A18 c18 hA181 hA182 => ?_)
   refine TL.as_ ?_
   refine TL.end_ (TX.in_normal (TX.then_ (TC.region ?_)))
   refine TL.val rfl rfl rfl (gives_bin rfl rfl rfl (fun w => bin_add_ (r := ((i + 1 : Nat) : Int)) (by simp only [IntKind.wrap_i64]; omega) w)) ?_
   refine TL.mv ?_
   refine TL.end_ ?_
   exact TX.round (⟨(i + 1, (A18, c18), out ++ [trcR x10]), by dsimp only; omega, mapf_snoc_t hx10 h13 hout, by dsimp only; rw [List.length_append]; show out.length + 1 ≤ _; omega, hA181, hA182⟩) (by show l.length - (i + 1) < l.length - i; omega) ⟨rfl, rfl, rfl, rfl, rfl, trivial⟩ (fun w1 hw => hw.pick [2] (by decide) rfl)
  ·refine TL.end_ (TX.then_ (TC.condF rfl (TC.skip_ (TX.in_normal (TX.then_ (TC.region ?_))))))
   refine TL.val rfl rfl rfl (gives_bin rfl rfl rfl (fun w => bin_add_ (r := ((i + 1 : Nat) : Int)) (by simp only [IntKind.wrap_i64]; omega) w)) ?_
   refine TL.mv ?_
   refine TL.end_ ?_
   exact TX.round (⟨(i + 1, (Ao, co), out), by dsimp only; omega, mapf_snoc_f hx10 h13 hout, by dsimp only; omega, houtc, houtm⟩) (by show l.length - (i + 1) < l.length - i; omega) ⟨rfl, rfl, rfl, rfl, rfl, trivial⟩ (fun w1 hw => hw.pick [1] (by decide) rfl)
 ·have q9 := of_decide_eq_false h9
  refine TL.end_ (TX.then_ (TC.seq_ (TC.condF rfl (TC.exit_ (TX.then_exit (TX.then_exit (TX.in_same (TX.then_ (TC.seq_ (TC.region ?_))))))))))
  refine TL.mv ?_
  refine TL.turnRowD (k := 0) (fun ys => Sorted cmpT out ys) rfl rfl rfl rfl rfl Tryz.func83 ptrnm83 ptrbd83 rfl (fun w1 hw hr9 => sortTrc hr9 (rfl) (by omega)) (fun srt21 hS21 => ?_)
  try dsimp only [List.set_cons_zero, List.set_cons_succ]
  refine TL.end_ (TX.then_ (TC.seq_ (TC.region ?_)))
  refine TL.mv ?_
  refine TL.turnRow2 (q := 0) (ys := cptG srt21) rfl rfl rfl rfl rfl Tryz.func85 ptrnm85 ptrbd85 rfl (fun w1 hw hr9 => compactTrc hr9 (hS21.1.length_eq) (by omega)) ?_
  try dsimp only [List.set_cons_zero, List.set_cons_succ]
  refine TL.as_ ?_
  refine TL.end_ (TX.then_ (TC.ret_ ?_))
  have hle : (cptG srt21).length ≤ out.length := Nat.le_trans (cptG_le _) (Nat.le_of_eq hS21.1.length_eq)
  exact ret_tmp Tryz.results37 rfl (fun w1 hw => ⟨⟨((Ao, co), cptG srt21), isTrc_of (by rw [List.take_of_length_le (by omega)] at hout; exact hout) hS21, by dsimp only; omega, houtm⟩, rfl, hw.pick [0] (by decide) rfl⟩)
set_option maxHeartbeats 1000000 in
theorem rcmpT_any (p q : Trc) (w : World) :
  Calls Tryz.prog 86 #[.agg p.cells.toArray, .agg q.cells.toArray] w fun e w' => e = .returned (.int .i64 (rcmpT p q)) ∧ Below w.heap.size w w' := by
 refine begin_ (vs := [.agg p.cells.toArray, .agg q.cells.toArray]) Tryz.func86 rfl rfl rfl ?_ (Pm.start w)
 refine TC.seq_ (TC.region ?_)
 refine TL.pnew rfl rfl rfl (exec_box (cs := p.cells) rfl rfl rfl) (fun g2 => ?_)
 refine TL.pnew rfl rfl rfl (exec_box (cs := q.cells) rfl rfl rfl) (fun g3 => ?_)
 refine TL.as_ ?_
 refine TL.end_ (TX.then_ (TC.seq_ (TC.seq_ (TC.region ?_))))
 refine TL.val rfl rfl rfl (gives_field (v := .pointer (some ⟨g2, 0, none⟩)) rfl rfl (fun w => pcmfld32_0 _ _ w)) ?_
 refine TL.val rfl rfl rfl (pm_load (k := 1) (i := 0) rfl rfl pcmag3 rfl rfl) ?_
 refine TL.val rfl rfl rfl (gives_field (v := .pointer (some ⟨g3, 0, none⟩)) rfl rfl (fun w => pcmfld32_0 _ _ w)) ?_
 refine TL.val rfl rfl rfl (pm_load (k := 0) (i := 0) rfl rfl pcmag3 rfl rfl) ?_
 refine TL.val rfl rfl rfl (gives_build (v := .agg #[.int .i64 p.v, .int .i64 q.v]) rfl rfl (fun w => prsbld129_29183 _ _ w)) ?_
 refine TL.val rfl rfl rfl (gives_field (v := .pointer (some ⟨g2, 1, none⟩)) rfl rfl (fun w => pcmfld32_1 _ _ w)) ?_
 refine TL.val rfl rfl rfl (pm_load (k := 1) (i := 1) rfl rfl pcmag30 rfl rfl) ?_
 refine TL.val rfl rfl rfl (gives_conv rfl rfl (fun w => conv_w64 Tryz.underlying3 Tryz.underlying30 w)) ?_
 refine TL.val rfl rfl rfl (gives_field (v := .pointer (some ⟨g3, 1, none⟩)) rfl rfl (fun w => pcmfld32_1 _ _ w)) ?_
 refine TL.val rfl rfl rfl (pm_load (k := 0) (i := 1) rfl rfl pcmag30 rfl rfl) ?_
 refine TL.val rfl rfl rfl (gives_conv rfl rfl (fun w => conv_w64 Tryz.underlying3 Tryz.underlying30 w)) ?_
 refine TL.val rfl rfl rfl (gives_build (v := .agg #[.int .i64 (IntKind.i64.wrap p.dst), .int .i64 (IntKind.i64.wrap q.dst)]) rfl rfl (fun w => prsbld129_29183 _ _ w)) ?_
 refine TL.val rfl rfl rfl (gives_field (v := .pointer (some ⟨g2, 2, none⟩)) rfl rfl (fun w => pcmfld32_2 _ _ w)) ?_
 refine TL.val rfl rfl rfl (pm_load (k := 1) (i := 2) rfl rfl pcmag3 rfl rfl) ?_
 refine TL.val rfl rfl rfl (gives_field (v := .pointer (some ⟨g3, 2, none⟩)) rfl rfl (fun w => pcmfld32_2 _ _ w)) ?_
 refine TL.val rfl rfl rfl (pm_load (k := 0) (i := 2) rfl rfl pcmag3 rfl rfl) ?_
 refine TL.val rfl rfl rfl (gives_build (v := .agg #[.int .i64 p.proto, .int .i64 q.proto]) rfl rfl (fun w => prsbld129_29183 _ _ w)) ?_
 refine TL.val rfl rfl rfl (gives_build (v := .agg ((flat pc2 (pairsT p q))).toArray) rfl rfl (fun w => ptrbld161_19242 _ _ _ _ _ _ w)) ?_
 refine TL.mv ?_
 refine TL.end_ (TX.then_ (TC.block ?_))
 refine TC.loop_ (α := {i : Nat // i ≤ 3 ∧ orP ((pairsT p q).drop i) = orP (pairsT p q)}) (fun y => [(24, .agg ((flat pc2 (pairsT p q))).toArray), (4, .int .i64 0), (25, .int .i64 ((y.1 : Nat) : Int))]) (fun y => Pm w [.blk g3 32 q.cells, .blk g2 32 p.cells]) (fun y => 3 - y.1) (⟨0, Nat.zero_le _, rfl⟩) ⟨rfl, rfl, rfl, trivial⟩ (fun w1 hw => hw) ?_
 rintro ⟨i, hi, ho⟩
 try dsimp only at hi ho ⊢
 refine TC.seq_ (TC.region ?_)
 refine TL.vsplit rfl rfl rfl (gives_bin rfl rfl rfl (fun w => bin_lss w)) (fun h26 => ?_) (fun h26 => ?_)
 ·have q26 := of_decide_eq_true h26
  refine TL.end_ (TX.then_ (TC.seq_ (TC.condT rfl (TC.skip_ (TX.then_ (TC.seq_ (TC.block (TC.seq_ (TC.region ?_)))))))))
  obtain ⟨x27, hx27⟩ : ∃ z, (pairsT p q)[i]? = some z := ⟨_, List.getElem?_eq_getElem (by show i < 3; omega)⟩
  have hdr : (pairsT p q).drop i = x27 :: (pairsT p q).drop (i + 1) := by obtain ⟨hlt, e⟩ := List.getElem?_eq_some_iff.1 hx27; rw [List.drop_eq_getElem_cons hlt, e]
  refine TL.val rfl rfl rfl (gives_index (v := .agg (pc2 x27).toArray) rfl rfl rfl (fun w => index_flat pc2_cel Tryz.underlying161 prsag129 prssz129 hx27 rfl rfl w)) ?_
  refine TL.pnew rfl rfl rfl (exec_alloc (cs := [.int .i64 0, .int .i64 0]) rfl prszv129 rfl) (fun g6 => ?_)
  refine TL.pstore (k := 0) (vs := (pc2 x27)) rfl rfl rfl rfl rfl rfl rfl prssz129 (pc2_cel.one _) (by show 2 ≤ 2; decide) (L' := [.blk g6 129 (pc2 x27), .blk g3 32 q.cells, .blk g2 32 p.cells]) rfl ?_
  refine TL.end_ (TX.then_ (TC.seq_ (TC.region ?_)))
  refine TL.val rfl rfl rfl (gives_at (v := .pointer (some ⟨g6, 0, none⟩)) rfl rfl rfl (fun w => at_arr Tryz.underlying129 pcmsz3 g6 0 _ 0 (by decide) w)) ?_
  refine TL.val rfl rfl rfl (pm_load (k := 0) (i := 0) rfl rfl pcmag3 rfl rfl) ?_
  refine TL.val rfl rfl rfl (gives_at (v := .pointer (some ⟨g6, 1, none⟩)) rfl rfl rfl (fun w => at_arr Tryz.underlying129 pcmsz3 g6 0 _ 1 (by decide) w)) ?_
  refine TL.val rfl rfl rfl (pm_load (k := 0) (i := 1) rfl rfl pcmag3 rfl rfl) ?_
  refine TL.vsplit rfl rfl rfl (gives_bin rfl rfl rfl (fun w => bin_neq w)) (fun h32 => ?_) (fun h32 => ?_)
  ·have q32 := of_decide_eq_true h32
   refine TL.end_ (TX.then_ (TC.condT rfl (TC.seq_ (TC.region ?_))))
   refine TL.val rfl rfl rfl (gives_at (v := .pointer (some ⟨g6, 0, none⟩)) rfl rfl rfl (fun w => at_arr Tryz.underlying129 pcmsz3 g6 0 _ 0 (by decide) w)) ?_
   refine TL.val rfl rfl rfl (pm_load (k := 0) (i := 0) rfl rfl pcmag3 rfl rfl) ?_
   refine TL.val rfl rfl rfl (gives_at (v := .pointer (some ⟨g6, 1, none⟩)) rfl rfl rfl (fun w => at_arr Tryz.underlying129 pcmsz3 g6 0 _ 1 (by decide) w)) ?_
   refine TL.val rfl rfl rfl (pm_load (k := 0) (i := 1) rfl rfl pcmag3 rfl rfl) ?_
   refine TL.pcall1 (r := .int .i64 (cmpI x27.1 x27.2)) rfl rfl rfl rfl rfl Tryz.func82 prsnm82 prsbd82 (fun w1 hw => still_bel (less_any x27.1 x27.2 w1)) ?_
   refine TL.as_ ?_
   refine TL.end_ (TX.then_ (TC.ret_ (TX.in_ret (TX.then_ret (TX.then_ret (TX.in_ret (TX.then_ret ?_)))))))
   exact ret_tmp Tryz.results86 rfl (fun w1 hw => ⟨by rw [rcmpT_pairs, ← ho, hdr, orP_cons, if_neg (fun h => q32 (cmpI_zero.1 h))], hw.bel⟩)
  ·have q32 := of_decide_eq_false h32
   have ho2 : orP ((pairsT p q).drop (i + 1)) = orP (pairsT p q) := by rw [← ho, hdr, orP_cons, if_pos (cmpI_zero.2 (Decidable.not_not.1 q32))]
   refine TL.end_ (TX.then_ (TC.condF rfl (TC.skip_ (TX.in_normal (TX.then_ (TC.region ?_))))))
   refine TL.val rfl rfl rfl (gives_bin rfl rfl rfl (fun w => bin_add_ (r := ((i + 1 : Nat) : Int)) (by simp only [IntKind.wrap_i64]; omega) w)) ?_
   refine TL.mv ?_
   refine TL.end_ ?_
   exact TX.round (⟨i + 1, by omega, ho2⟩) (by show 3 - (i + 1) < 3 - i; omega) ⟨rfl, rfl, rfl, trivial⟩ (fun w1 hw => hw.pick [1, 2] (by decide) rfl)
 ·have q26 := of_decide_eq_false h26
  refine TL.end_ (TX.then_ (TC.seq_ (TC.condF rfl (TC.exit_ (TX.then_exit (TX.then_exit (TX.in_same (TX.then_ (TC.seq_ (TC.region ?_))))))))))
  refine TL.as_ ?_
  refine TL.end_ (TX.then_ (TC.ret_ ?_))
  exact ret_tmp Tryz.results86 rfl (fun w1 hw => ⟨by rw [rcmpT_pairs, ← ho, List.drop_of_length_le (by show 3 ≤ i; omega)]; rfl, hw.bel⟩)
set_option maxHeartbeats 1000000 in
theorem rtrs_any (A0 : Option Addr) (c0 : Nat) (l : List Rs) (w : World) (hr : Reads w w.heap.size 17 A0 l.length (flat Rs.cells l)) (hl1 : l.length ≤ 100000) (hok : ∀ r ∈ l, r.Ok) :
  Calls Tryz.prog 38 #[.slice A0 l.length c0] w fun e w' => ∃ x : {y : (Option Addr × Nat) × List Trc // IsTrc l y.2 ∧ y.2.length ≤ y.1.2 ∧ y.1.2 ≤ maxLen}, e = .returned (.slice x.1.1.1 x.1.2.length x.1.1.2) ∧ Pm w [.row (.slice x.1.1.1 x.1.2.length x.1.1.2) 32 3 x.1.2.length (flat Trc.cells x.1.2)] w' := by
 refine begin_ (vs := [.slice A0 l.length c0]) Tryz.func38 rfl rfl rfl ?_ (Pm.start w)
 refine TC.seq_ (TC.region ?_)
 refine TL.as_ ?_
 refine TL.end_ (TX.then_ (TC.seq_ (TC.region ?_)))
 refine TL.as_ ?_
 refine TL.end_ (TX.then_ (TC.seq_ (TC.seq_ (TC.region ?_))))
 refine TL.as_ ?_
 refine TL.end_ (TX.then_ (TC.block ?_))
 refine TC.nilrow 32 3 ?_
 refine TC.loop_ (α := {y : Nat × (Option Addr × Nat) × Nat × List Trc // y.1 ≤ l.length ∧ (IsTrc (l.take y.1) y.2.2.2) ∧ y.2.2.1 ≤ y.1 ∧ y.2.2.1 ≤ y.2.1.2 ∧ y.2.1.2 ≤ maxLen ∧ y.2.2.2.length = y.2.2.1}) (fun y => [(0, .slice A0 l.length c0), (2, .slice none 0 0), (4, .int .i64 ((y.1.1 : Nat) : Int)), (3, .slice y.1.2.1.1 y.1.2.2.1 y.1.2.1.2)]) (fun y => Pm w [.row (.slice y.1.2.1.1 y.1.2.2.1 y.1.2.1.2) 32 3 y.1.2.2.1 (flat Trc.cells y.1.2.2.2)]) (fun y => l.length - y.1.1) (⟨(0, (none, 0), 0, []), Nat.zero_le _, IsTrc.nil, Nat.le_refl _, Nat.le_refl _, Nat.zero_le _, rfl⟩) ⟨rfl, rfl, rfl, rfl, trivial⟩ (fun w1 hw => hw) ?_
 rintro ⟨⟨i, ⟨Ao, co⟩, m, out⟩, hi, hout, houtl, houtc, houtm, houtn⟩
 dsimp only at hi hout houtl houtc houtm houtn ⊢
 refine TC.seq_ (TC.seq_ (TC.region ?_))
 refine TL.mv ?_
 refine TL.mv ?_
 refine TL.val rfl rfl rfl (gives_len rfl Tryz.underlying26 rfl) ?_
 refine TL.vsplit rfl rfl rfl (gives_bin rfl rfl rfl (fun w => bin_lss w)) (fun h10 => ?_) (fun h10 => ?_)
 ·have q10 := of_decide_eq_true h10
  refine TL.end_ (TX.then_ (TC.condT rfl (TC.skip_ (TX.then_ (TC.seq_ (TC.block (TC.seq_ (TC.seq_ (TC.region ?_)))))))))
  refine TL.mv ?_
  refine TL.mv ?_
  have hi15 : i < l.length := by omega
  obtain ⟨x15, hx15⟩ : ∃ x15, l[i]? = some x15 := ⟨_, List.getElem?_eq_getElem hi15⟩
  obtain ⟨b15, o15, hA15, hbb15, hc15⟩ := hr.ad (by omega) (by decide)
  refine TL.val rfl rfl rfl (gives_at (v := .pointer (some ⟨b15, o15 + i * 17, none⟩)) rfl rfl rfl (fun w => at_el Tryz.underlying26 prssz47 hA15 _ _ i (by omega) rfl w)) ?_
  refine TL.val rfl rfl rfl (gives_loadR (off := o15 + i * 17) rfl rfl prsag47 prssz47 (rs_cel.len x15) (fun w1 hw j9 u9 h9 => (hw.bel.cell hbb15).trans <| flat_cell rs_cel hx15 hc15 j9 u9 h9)) ?_
  refine TL.callsplit rfl rfl rfl rfl rfl Tryz.func27 prsnm27 prsbd27 (fun w1 hw => rvldRs_any x15 w1) (fun h17 => ?_) (fun h17 => ?_)
  ·refine TL.val rfl rfl rfl (gives_boolnot rfl rfl) ?_
   refine TL.end_ (TX.then_ (TC.condF rfl (TC.skip_ (TX.then_ (TC.seq_ (TC.region ?_))))))
   refine TL.mv ?_
   refine TL.mv ?_
   refine TL.val rfl rfl rfl (gives_at (v := .pointer (some ⟨b15, o15 + i * 17, none⟩)) rfl rfl rfl (fun w => at_el Tryz.underlying26 prssz47 hA15 _ _ i (by omega) rfl w)) ?_
   refine TL.val rfl rfl rfl (gives_loadR (off := o15 + i * 17) rfl rfl prsag47 prssz47 (rs_cel.len x15) (fun w1 hw j9 u9 h9 => (hw.bel.cell hbb15).trans <| flat_cell rs_cel hx15 hc15 j9 u9 h9)) ?_
   refine TL.pcall1 (r := .agg ((trcR x15).cells).toArray) rfl rfl rfl rfl rfl Tryz.func36 ptrnm36 ptrbd36 (fun w1 hw => rtrc_any x15 w1) ?_
   refine TL.pnew rfl rfl rfl (exec_alloc (cs := [.int .i64 0, .int .u32 0, .int .i64 0]) rfl prszv32 rfl) (fun g5 => ?_)
   refine TL.pstore (k := 0) (vs := (trcR x15).cells) rfl rfl rfl rfl rfl rfl rfl prssz32 (trc_cel.one _) (by show 3 ≤ 3; decide) (L' := [.blk g5 32 (trcR x15).cells, .row (.slice Ao m co) 32 3 m (flat Trc.cells out)]) rfl ?_
   refine TL.end_ (TX.then_ (TC.seq_ (TC.region ?_)))
   refine TL.as_ ?_
   refine TL.end_ (TX.then_ (TC.seq_ (TC.block ?_)))
   refine TC.loop_ (α := {k : Nat // k ≤ m ∧ ∀ z ∈ out.take k, lexI (trk z) (trk (trcR x15)) < 0}) (fun y => [(0, .slice A0 l.length c0), (2, .slice none 0 0), (3, .slice Ao m co), (4, .int .i64 ((i : Nat) : Int)), (5, .pointer (some ⟨g5, 0, none⟩)), (6, .int .i64 ((y.1 : Nat) : Int))]) (fun y => Pm w [.blk g5 32 (trcR x15).cells, .row (.slice Ao m co) 32 3 m (flat Trc.cells out)]) (fun y => m - y.1) (⟨0, Nat.zero_le _, fun z hz => by rw [List.take_zero] at hz; cases hz⟩) ⟨rfl, rfl, rfl, rfl, rfl, rfl, trivial⟩ (fun w1 hw => hw) ?_
   rintro ⟨k, hk, hlt⟩
   try dsimp only at hk hlt ⊢
   refine TC.seq_ (TC.seq_ ?_)
   by_cases hk0 : k = m
   ·refine TC.quietQ (by kernel_rfl) (by kernel_rfl) (fun w hw => hw.drawn _) ?_
    refine TQ.val rfl rfl rfl (gives_move rfl rfl) ?_
    refine TQ.val rfl rfl rfl (gives_move rfl rfl) ?_
    refine TQ.val rfl rfl rfl (gives_len rfl Tryz.underlying73 rfl) ?_
    refine TQ.val rfl rfl rfl (gives_bin rfl rfl rfl (fun w => bin_lss_f (by omega) w)) ?_
    iterate 9 (first | refine TQ.off rfl rfl rfl rfl rfl rfl ?_ | refine TQ.val rfl rfl rfl (gives_move rfl rfl) ?_ | refine TQ.val rfl rfl rfl (gives_pick rfl rfl rfl) ?_)
    refine TQ.fin ?_
    refine TX.then_ (TC.condF rfl (TC.exit_ (TX.then_exit (TX.then_exit (TX.in_same (TX.then_ (TC.seq_ (TC.seq_ ?_))))))))
    ·refine TC.quietQ (by kernel_rfl) (by kernel_rfl) (fun w hw => hw.drawn _) ?_
     refine TQ.val rfl rfl rfl (gives_move rfl rfl) ?_
     refine TQ.val rfl rfl rfl (gives_move rfl rfl) ?_
     refine TQ.val rfl rfl rfl (gives_len rfl Tryz.underlying73 rfl) ?_
     refine TQ.val rfl rfl rfl (gives_bin rfl rfl rfl (fun w => bin_lss_f (by omega) w)) ?_
     iterate 8 (first | refine TQ.off rfl rfl rfl rfl rfl rfl ?_ | refine TQ.val rfl rfl rfl (gives_move rfl rfl) ?_ | refine TQ.val rfl rfl rfl (gives_pick rfl rfl rfl) ?_)
     refine TQ.fin ?_
     refine TX.then_ (TC.condF rfl (TC.skip_ (TX.then_ (TC.seq_ (TC.region ?_)))))
     refine TL.mv ?_
     refine TL.val rfl rfl rfl (pm_loadV (k := 0) (i := 0) (n := 3) (v := .agg ((trcR x15).cells).toArray) rfl rfl pcpag32 prssz32 rfl (by show 3 ≤ 3; decide) rfl) ?_
     refine TL.prowS (e := 32) (size := 3) (cs := flat Trc.cells [trcR x15]) rfl rfl rfl rfl rfl (fun w => ptrbs73_1_44646 _ _ _ w) (by decide) rfl (fun g53 => ?_)
     refine TL.appendT (k := 2) rfl rfl rfl rfl Tryz.underlying73 ptrel73 rfl rfl rfl (fun w1 hw => pm_reads hw (k := 0) rfl) (flat_one trc_cel _) (by show _ * 24 ≤ _; omega) (m + 1) (rfl) (flat Trc.cells (out ++ [trcR x15])) ((flat_app _ _).symm) (fun A54 c54 hA541 hA542 => ?_)
     refine TL.as_ ?_
     refine TL.end_ (TX.then_ (TC.seq_ ?_))
     have hn1 : (out ++ [trcR x15]).length = out.length + 1 := by simp
     have hn2 : (shiftL (out ++ [trcR x15]) k).length = out.length + 1 := by rw [shiftL_len _ _ (by omega), hn1]
     refine TC.fact (p := ∃ g, A54 = some ⟨g, 0, none⟩) (fun w1 hw => rowA hw (k := 2) rfl (by omega)) ?_
     rintro ⟨g_A54, rfl⟩
     refine TC.tail 7 (by kernel_rfl) (by kernel_rfl) (fun w hw => hw.drawn _) ?_
     refine TS.val rfl rfl rfl (gives_move rfl rfl) ?_
     refine TS.val rfl rfl rfl (gives_move rfl rfl) ?_
     refine TS.val rfl rfl rfl (gives_bin rfl rfl rfl (fun w => bin_add_ (r := ((k + 1 : Nat) : Int)) (by simp only [IntKind.wrap_i64]; omega) w)) ?_
     refine TS.val rfl rfl rfl (gives_sliceL (v := .slice (if c54 = k + 1 then some ⟨g_A54, 0, none⟩ else (some (⟨g_A54, 0, none⟩ : Addr)).map (·.add ((k + 1) * 3))) ((m + 1) - (k + 1)) (c54 - (k + 1))) rfl rfl rfl (fun w => cut_lo Tryz.underlying73 prssz32 _ _ _ (k + 1) rfl (by omega) w)) ?_
     refine TS.val rfl rfl rfl (gives_move rfl rfl) ?_
     refine TS.val rfl rfl rfl (gives_move rfl rfl) ?_
     refine TS.val rfl rfl rfl (gives_tailF (q := k) rfl rfl rfl rfl Tryz.underlying73 prssz32 (by omega) (by omega)) ?_
     refine TS.end_ ?_
     refine TL.shiftF trc_cel (kk := 2) (k := k) rfl rfl rfl rfl Tryz.underlying73 prssz32 rfl rfl rfl (by omega) (by omega) (by omega) ?_
     try dsimp only [List.set_cons_zero, List.set_cons_succ]
     refine TL.end_ (TX.then_ (TC.region ?_))
     refine TL.mv ?_
     refine TL.mv ?_
     refine TL.val rfl rfl rfl (pm_loadV (k := 1) (i := 0) (n := 3) (v := .agg ((trcR x15).cells).toArray) rfl rfl pcpag32 prssz32 rfl (by show 3 ≤ 3; decide) rfl) ?_
     have hi66 : k < (shiftL (out ++ [trcR x15]) k).length := by omega
     obtain ⟨x66, hx66⟩ : ∃ x66, (shiftL (out ++ [trcR x15]) k)[k]? = some x66 := ⟨_, List.getElem?_eq_getElem hi66⟩
     refine TL.val rfl rfl rfl (gives_at (v := .pointer (some ⟨g_A54, 0 + k * 3, none⟩)) rfl rfl rfl (fun w => at_el Tryz.underlying73 prssz32 rfl _ _ k (by omega) rfl w)) ?_
     refine TL.rowset (k := 2) (vs := (trcR x15).cells) (xs' := flat Trc.cells ((shiftL (out ++ [trcR x15]) k).set k (trcR x15))) rfl rfl rfl rfl rfl rfl rfl prssz32 (trc_cel.one _) (by rw [flat_len trc_cel]; show 0 + k * 3 + 3 ≤ _; omega) (flat_put trc_cel (q := 0) (y := trcR x15) hx66 (by show 0 + 3 ≤ 3; decide) rfl) ?_
     try dsimp only [List.set_cons_zero, List.set_cons_succ]
     refine TL.end_ (TX.in_normal (TX.then_ (TC.region ?_)))
     refine TL.mv ?_
     refine TL.val rfl rfl rfl (gives_bin rfl rfl rfl (fun w => bin_add_ (r := ((i + 1 : Nat) : Int)) (by simp only [IntKind.wrap_i64]; omega) w)) ?_
     refine TL.as_ ?_
     refine TL.end_ ?_
     exact TX.round (⟨(i + 1, ((some ⟨g_A54, 0, none⟩), c54), m + 1, (shiftL (out ++ [trcR x15]) k).set k (trcR x15)), by dsimp only; omega, by dsimp only; rw [shiftL_at _ _ _ _ (by omega)]; exact hout.put hx15 h17 hlt (fun z hz => by rw [List.drop_of_length_le (by omega)] at hz; cases hz), by dsimp only; omega, hA541, hA542, by dsimp only; rw [List.length_set]; omega⟩) (by show l.length - (i + 1) < l.length - i; omega) ⟨rfl, rfl, rfl, rfl, trivial⟩ (fun w1 hw => hw.pick [2] (by decide) rfl)
   ·refine TC.fact (p := ∃ g, Ao = some ⟨g, 0, none⟩) (fun w1 hw => rowA hw (k := 1) rfl (by omega)) ?_
    rintro ⟨g_Ao, rfl⟩
    refine TC.quietQ (by kernel_rfl) (by kernel_rfl) (fun w hw => hw.drawn _) ?_
    refine TQ.val rfl rfl rfl (gives_move rfl rfl) ?_
    refine TQ.val rfl rfl rfl (gives_move rfl rfl) ?_
    refine TQ.val rfl rfl rfl (gives_len rfl Tryz.underlying73 rfl) ?_
    refine TQ.val rfl rfl rfl (gives_bin rfl rfl rfl (fun w => bin_lss_t (by omega) w)) ?_
    iterate 6 (first | refine TQ.val rfl rfl rfl (gives_move rfl rfl) ?_ | refine TQ.on rfl rfl rfl ?_)
    have hi31 : k < out.length := by omega
    obtain ⟨x31, hx31⟩ : ∃ x31, out[k]? = some x31 := ⟨_, List.getElem?_eq_getElem hi31⟩
    refine TQ.val rfl rfl rfl (gives_at (v := .pointer (some ⟨g_Ao, 0 + k * 3, none⟩)) rfl rfl rfl (fun w => at_el Tryz.underlying73 prssz32 rfl _ _ k (by omega) rfl w)) ?_
    refine TQ.on rfl rfl rfl ?_
    refine TQ.val rfl rfl rfl (gives_loadR (off := 0 + k * 3) rfl rfl pcpag32 prssz32 (trc_cel.len x31) (fun w1 hw j9 u9 h9 => flat_row trc_cel hw (q := 1) rfl hx31 j9 u9 h9)) ?_
    refine TQ.on rfl rfl rfl ?_
    refine TQ.val rfl rfl rfl (pm_loadV (k := 0) (i := 0) (n := 3) (v := .agg ((trcR x15).cells).toArray) rfl rfl pcpag32 prssz32 rfl (by show 3 ≤ 3; decide) rfl) ?_
    refine TQ.on rfl rfl rfl ?_
    refine TQ.call (v := .int .i64 (rcmpT x31 (trcR x15))) rfl rfl rfl rfl rfl Tryz.func86 ptrnm86 ptrbd86 (fun w1 hw => (rcmpT_any x31 (trcR x15) w1).mono fun en w2 ⟨h1, h2⟩ => ⟨h1, hw.below h2⟩) ?_
    refine TQ.on rfl rfl rfl ?_
    refine TQ.vsplit rfl rfl rfl (gives_bin rfl rfl rfl (fun w => bin_lss w)) (fun h35 => ?_) (fun h35 => ?_)
    ·have q35 := of_decide_eq_true h35
     have hlt2 : ∀ z ∈ out.take (k + 1), lexI (trk z) (trk (trcR x15)) < 0 := ascK_ahead trk_len hout.1 hx31 (hout.lt hx15 hok (List.mem_of_getElem? hx31) q35)
     refine TQ.val rfl rfl rfl (gives_pick rfl rfl rfl) ?_
     refine TQ.fin ?_
     refine TX.then_ (TC.condT rfl (TC.skip_ (TX.then_ (TC.block (TC.region ?_)))))
     refine TL.mv ?_
     refine TL.val rfl rfl rfl (gives_bin rfl rfl rfl (fun w => bin_add_ (r := ((k + 1 : Nat) : Int)) (by simp only [IntKind.wrap_i64]; omega) w)) ?_
     refine TL.as_ ?_
     refine TL.end_ (TX.in_normal ?_)
     exact TX.round (⟨k + 1, by omega, hlt2⟩) (by show m - (k + 1) < m - k; omega) ⟨rfl, rfl, rfl, rfl, rfl, rfl, trivial⟩ (fun w1 hw => hw)
    ·have q35 := of_decide_eq_false h35
     refine TQ.val rfl rfl rfl (gives_pick rfl rfl rfl) ?_
     refine TQ.fin ?_
     refine TX.then_ (TC.condF rfl (TC.exit_ (TX.then_exit (TX.then_exit (TX.in_same (TX.then_ (TC.seq_ (TC.seq_ ?_))))))))
     ·refine TC.quietQ (by kernel_rfl) (by kernel_rfl) (fun w hw => hw.drawn _) ?_
      refine TQ.val rfl rfl rfl (gives_move rfl rfl) ?_
      refine TQ.val rfl rfl rfl (gives_move rfl rfl) ?_
      refine TQ.val rfl rfl rfl (gives_len rfl Tryz.underlying73 rfl) ?_
      refine TQ.val rfl rfl rfl (gives_bin rfl rfl rfl (fun w => bin_lss_t (by omega) w)) ?_
      iterate 6 (first | refine TQ.val rfl rfl rfl (gives_move rfl rfl) ?_ | refine TQ.on rfl rfl rfl ?_)
      refine TQ.val rfl rfl rfl (gives_at (v := .pointer (some ⟨g_Ao, 0 + k * 3, none⟩)) rfl rfl rfl (fun w => at_el Tryz.underlying73 prssz32 rfl _ _ k (by omega) rfl w)) ?_
      refine TQ.on rfl rfl rfl ?_
      refine TQ.val rfl rfl rfl (gives_loadR (off := 0 + k * 3) rfl rfl pcpag32 prssz32 (trc_cel.len x31) (fun w1 hw j9 u9 h9 => flat_row trc_cel hw (q := 1) rfl hx31 j9 u9 h9)) ?_
      refine TQ.on rfl rfl rfl ?_
      refine TQ.val rfl rfl rfl (pm_loadV (k := 0) (i := 0) (n := 3) (v := .agg ((trcR x15).cells).toArray) rfl rfl pcpag32 prssz32 rfl (by show 3 ≤ 3; decide) rfl) ?_
      refine TQ.on rfl rfl rfl ?_
      refine TQ.vsplit rfl rfl rfl (gives_bin2 rfl rfl rfl (fun w => trc_eql x31 (trcR x15) _ _ w)) (fun h49 => ?_) (fun h49 => ?_)
      ·have q49 := of_decide_eq_true h49
       refine TQ.val rfl rfl rfl (gives_pick rfl rfl rfl) ?_
       refine TQ.fin ?_
       refine TX.then_ (TC.condT rfl (TC.exit_ (TX.then_exit (TX.in_same (TX.then_ (TC.region ?_))))))
       refine TL.mv ?_
       refine TL.val rfl rfl rfl (gives_bin rfl rfl rfl (fun w => bin_add_ (r := ((i + 1 : Nat) : Int)) (by simp only [IntKind.wrap_i64]; omega) w)) ?_
       refine TL.as_ ?_
       refine TL.end_ ?_
       exact TX.round (⟨(i + 1, ((some ⟨g_Ao, 0, none⟩), co), m, out), by dsimp only; omega, hout.dup hx15 h17 (by have e9 := q49; rw [← e9]; exact List.mem_of_getElem? hx31), by dsimp only; omega, houtc, houtm, houtn⟩) (by show l.length - (i + 1) < l.length - i; omega) ⟨rfl, rfl, rfl, rfl, trivial⟩ (fun w1 hw => hw.pick [1] (by decide) rfl)
      ·have q49 := of_decide_eq_false h49
       refine TQ.val rfl rfl rfl (gives_pick rfl rfl rfl) ?_
       refine TQ.fin ?_
       refine TX.then_ (TC.condF rfl (TC.skip_ (TX.then_ (TC.seq_ (TC.region ?_)))))
       refine TL.mv ?_
       refine TL.val rfl rfl rfl (pm_loadV (k := 0) (i := 0) (n := 3) (v := .agg ((trcR x15).cells).toArray) rfl rfl pcpag32 prssz32 rfl (by show 3 ≤ 3; decide) rfl) ?_
       refine TL.prowS (e := 32) (size := 3) (cs := flat Trc.cells [trcR x15]) rfl rfl rfl rfl rfl (fun w => ptrbs73_1_44646 _ _ _ w) (by decide) rfl (fun g53 => ?_)
       refine TL.appendT (k := 2) rfl rfl rfl rfl Tryz.underlying73 ptrel73 rfl rfl rfl (fun w1 hw => pm_reads hw (k := 0) rfl) (flat_one trc_cel _) (by show _ * 24 ≤ _; omega) (m + 1) (rfl) (flat Trc.cells (out ++ [trcR x15])) ((flat_app _ _).symm) (fun A54 c54 hA541 hA542 => ?_)
       refine TL.as_ ?_
       refine TL.end_ (TX.then_ (TC.seq_ ?_))
       have hn1 : (out ++ [trcR x15]).length = out.length + 1 := by simp
       have hn2 : (shiftL (out ++ [trcR x15]) k).length = out.length + 1 := by rw [shiftL_len _ _ (by omega), hn1]
       refine TC.fact (p := ∃ g, A54 = some ⟨g, 0, none⟩) (fun w1 hw => rowA hw (k := 2) rfl (by omega)) ?_
       rintro ⟨g_A54, rfl⟩
       refine TC.tail 7 (by kernel_rfl) (by kernel_rfl) (fun w hw => hw.drawn _) ?_
       refine TS.val rfl rfl rfl (gives_move rfl rfl) ?_
       refine TS.val rfl rfl rfl (gives_move rfl rfl) ?_
       refine TS.val rfl rfl rfl (gives_bin rfl rfl rfl (fun w => bin_add_ (r := ((k + 1 : Nat) : Int)) (by simp only [IntKind.wrap_i64]; omega) w)) ?_
       refine TS.val rfl rfl rfl (gives_sliceL (v := .slice (if c54 = k + 1 then some ⟨g_A54, 0, none⟩ else (some (⟨g_A54, 0, none⟩ : Addr)).map (·.add ((k + 1) * 3))) ((m + 1) - (k + 1)) (c54 - (k + 1))) rfl rfl rfl (fun w => cut_lo Tryz.underlying73 prssz32 _ _ _ (k + 1) rfl (by omega) w)) ?_
       refine TS.val rfl rfl rfl (gives_move rfl rfl) ?_
       refine TS.val rfl rfl rfl (gives_move rfl rfl) ?_
       refine TS.val rfl rfl rfl (gives_tailF (q := k) rfl rfl rfl rfl Tryz.underlying73 prssz32 (by omega) (by omega)) ?_
       refine TS.end_ ?_
       refine TL.shiftF trc_cel (kk := 2) (k := k) rfl rfl rfl rfl Tryz.underlying73 prssz32 rfl rfl rfl (by omega) (by omega) (by omega) ?_
       try dsimp only [List.set_cons_zero, List.set_cons_succ]
       refine TL.end_ (TX.then_ (TC.region ?_))
       refine TL.mv ?_
       refine TL.mv ?_
       refine TL.val rfl rfl rfl (pm_loadV (k := 1) (i := 0) (n := 3) (v := .agg ((trcR x15).cells).toArray) rfl rfl pcpag32 prssz32 rfl (by show 3 ≤ 3; decide) rfl) ?_
       have hi66 : k < (shiftL (out ++ [trcR x15]) k).length := by omega
       obtain ⟨x66, hx66⟩ : ∃ x66, (shiftL (out ++ [trcR x15]) k)[k]? = some x66 := ⟨_, List.getElem?_eq_getElem hi66⟩
       refine TL.val rfl rfl rfl (gives_at (v := .pointer (some ⟨g_A54, 0 + k * 3, none⟩)) rfl rfl rfl (fun w => at_el Tryz.underlying73 prssz32 rfl _ _ k (by omega) rfl w)) ?_
       refine TL.rowset (k := 2) (vs := (trcR x15).cells) (xs' := flat Trc.cells ((shiftL (out ++ [trcR x15]) k).set k (trcR x15))) rfl rfl rfl rfl rfl rfl rfl prssz32 (trc_cel.one _) (by rw [flat_len trc_cel]; show 0 + k * 3 + 3 ≤ _; omega) (flat_put trc_cel (q := 0) (y := trcR x15) hx66 (by show 0 + 3 ≤ 3; decide) rfl) ?_
       try dsimp only [List.set_cons_zero, List.set_cons_succ]
       refine TL.end_ (TX.in_normal (TX.then_ (TC.region ?_)))
       refine TL.mv ?_
       refine TL.val rfl rfl rfl (gives_bin rfl rfl rfl (fun w => bin_add_ (r := ((i + 1 : Nat) : Int)) (by simp only [IntKind.wrap_i64]; omega) w)) ?_
       refine TL.as_ ?_
       refine TL.end_ ?_
       exact TX.round (⟨(i + 1, ((some ⟨g_A54, 0, none⟩), c54), m + 1, (shiftL (out ++ [trcR x15]) k).set k (trcR x15)), by dsimp only; omega, by dsimp only; rw [shiftL_at _ _ _ _ (by omega)]; exact hout.put hx15 h17 hlt (ascK_behind trk_len hout.1 hx31 (hout.gt hx15 hok (List.mem_of_getElem? hx31) q35 q49)), by dsimp only; omega, hA541, hA542, by dsimp only; rw [List.length_set]; omega⟩) (by show l.length - (i + 1) < l.length - i; omega) ⟨rfl, rfl, rfl, rfl, trivial⟩ (fun w1 hw => hw.pick [2] (by decide) rfl)
  ·refine TL.val rfl rfl rfl (gives_boolnot rfl rfl) ?_
   refine TL.end_ (TX.then_ (TC.condT rfl (TC.exit_ (TX.then_exit (TX.in_same (TX.then_ (TC.region ?_)))))))
   refine TL.mv ?_
   refine TL.val rfl rfl rfl (gives_bin rfl rfl rfl (fun w => bin_add_ (r := ((i + 1 : Nat) : Int)) (by simp only [IntKind.wrap_i64]; omega) w)) ?_
   refine TL.as_ ?_
   refine TL.end_ ?_
   exact TX.round (⟨(i + 1, (Ao, co), m, out), by dsimp only; omega, hout.skip hx15 h17, by dsimp only; omega, houtc, houtm, houtn⟩) (by show l.length - (i + 1) < l.length - i; omega) ⟨rfl, rfl, rfl, rfl, trivial⟩ (fun w1 hw => hw)
 ·have q10 := of_decide_eq_false h10
  refine TL.end_ (TX.then_ (TC.condF rfl (TC.exit_ (TX.then_exit (TX.then_exit (TX.in_same (TX.then_ (TC.seq_ (TC.region ?_)))))))))
  refine TL.mv ?_
  refine TL.as_ ?_
  refine TL.end_ (TX.then_ (TC.ret_ ?_))
  subst houtn
  exact ret_tmp Tryz.results38 rfl (fun w1 hw => ⟨⟨((Ao, co), out), by rw [List.take_of_length_le (by omega)] at hout; exact hout, by dsimp only; omega, houtm⟩, rfl, hw.pick [0] (by decide) rfl⟩)
set_option maxRecDepth 20000
theorem nodup_len {α : Type} [DecidableEq α] : ∀ {p F : List α}, p.Nodup → (∀ f ∈ p, f ∈ F) → p.length ≤ F.length
 | [], _, _, _ => Nat.zero_le _
 | a :: p, F, h, hs => by
  obtain ⟨h1, h2⟩ := List.nodup_cons.1 h
  have := nodup_len (F := F.erase a) h2 fun f hf => (List.mem_erase_of_ne (fun e => h1 (by rw [← e]; exact hf))).2 (hs f (List.mem_cons_of_mem _ hf))
  rw [List.length_erase_of_mem (hs a List.mem_cons_self)] at this
  have h3 : 0 < F.length := List.length_pos_of_mem (hs a List.mem_cons_self)
  rw [List.length_cons]
  omega
def IsOf (l : List Rs) (t : Trc) (y : List Rs) : Prop := ∃ o, IsOrd l o ∧ y = o.filter fun r => decide (trcR r = t)
theorem IsOf.eq {l y y' : List Rs} {t : Trc} (h : IsOf l t y) (h' : IsOf l t y') : y = y' := by
 obtain ⟨o, h1, h2⟩ := h
 obtain ⟨o', h3, h4⟩ := h'
 rw [h2, h4, h1.eq h3]
theorem IsOrd.le {l o : List Rs} (h : IsOrd l o) : o.length ≤ l.length := by
 have hn : o.Nodup := h.1.imp fun {a b} hab e => by subst e; exact ltK_irrefl _ hab
 exact nodup_len hn fun x hx => ((h.2 x).1 hx).1
def fitF (u : Idn) (p : Rs × Bool) (r : Rs) : Bool := decide (idnR r = u) && (!p.2 || decide (cmpRs r p.1 < 0)) && vldRs r
def stepF (u : Idn) (p : Rs × Bool) (r : Rs) : Rs × Bool := if fitF u p r then (r, true) else p
def findS (l : List Rs) (u : Idn) : Rs × Bool := l.foldl (stepF u) (Rs.zero, false)
theorem findS_snoc {l : List Rs} {u : Idn} {i : Nat} {x : Rs} {p : Rs × Bool} (hx : l[i]? = some x) (hp : findS (l.take i) u = p) : findS (l.take (i + 1)) u = if fitF u p x then (x, true) else p := by
 unfold findS at hp ⊢
 rw [List.take_add_one, hx, List.foldl_append, hp]
 rfl
def rfindS (o : List Rs) (u : Idn) : Rs × Bool := match o.find? (fun r => decide (idnR r = u)) with
 | some r => (r, true)
 | none => (Rs.zero, false)
theorem pofnm40 : (Tryz.f40.name == "runtime.NumGoroutine") = false := by decide
theorem pofbd40 : Tryz.f40.body.isNone = false := rfl
theorem pofnm41 : (Tryz.f41.name == "runtime.NumGoroutine") = false := by decide
theorem pofbd41 : Tryz.f41.body.isNone = false := rfl
theorem pofnm33 : (Tryz.f33.name == "runtime.NumGoroutine") = false := by decide
theorem pofbd33 : Tryz.f33.body.isNone = false := rfl
theorem pofag67 (w : World) : (isAgg 67).run Tryz.prog w = .ok true w := rfl
theorem pofnm31 : (Tryz.f31.name == "runtime.NumGoroutine") = false := by decide
theorem pofbd31 : Tryz.f31.body.isNone = false := rfl
theorem pofnm34 : (Tryz.f34.name == "runtime.NumGoroutine") = false := by decide
theorem pofbd34 : Tryz.f34.body.isNone = false := rfl
theorem pofbld47_534  (w : World) : (Instr.build 47 #[]).run Tryz.prog w = .ok (.agg #[.int .i64 0, .int .i64 0, .int .i64 0, .int .i64 0, .int .u32 0, .int .i64 0, .int .i64 0, .int .i64 0, .bool false, .bool false, .int .i64 0, .int .u32 0, .int .i64 0, .int .i64 0, .int .i64 0, .int .i64 0, .int .i64 0]) w := by kernel_rfl
set_option maxHeartbeats 1000000 in
theorem of_any (A0 : Option Addr) (c0 : Nat) (l : List Rs) (t : Trc) (w : World) (hr : Reads w w.heap.size 17 A0 l.length (flat Rs.cells l)) (hl1 : l.length ≤ 100000) (hok : ∀ r ∈ l, r.Ok) :
  Calls Tryz.prog 42 #[.slice A0 l.length c0, .agg t.cells.toArray] w fun e w' => ∃ x : {y : (Option Addr × Nat) × List Rs // IsOf l t y.2 ∧ y.2.length ≤ y.1.2 ∧ y.1.2 ≤ maxLen}, e = .returned (.slice x.1.1.1 x.1.2.length x.1.1.2) ∧ Pm w [.row (.slice x.1.1.1 x.1.2.length x.1.1.2) 47 17 x.1.2.length (flat Rs.cells x.1.2)] w' := by
 refine begin_ (vs := [.slice A0 l.length c0, .agg t.cells.toArray]) Tryz.func42 rfl rfl rfl ?_ (Pm.start w)
 refine TC.seq_ (TC.region ?_)
 refine TL.pnew rfl rfl rfl (exec_box (cs := t.cells) rfl rfl rfl) (fun g3 => ?_)
 refine TL.as_ ?_
 refine TL.end_ (TX.then_ (TC.seq_ (TC.region ?_)))
 refine TL.as_ ?_
 refine TL.end_ (TX.then_ (TC.seq_ (TC.seq_ (TC.region ?_))))
 refine TL.mv ?_
 refine TL.pcallPm (α := {y : (Option Addr × Nat) × List Rs // IsOrd l y.2 ∧ y.2.length ≤ y.1.2 ∧ y.1.2 ≤ maxLen}) (fun x => .slice x.1.1.1 x.1.2.length x.1.1.2) (fun x => [.row (.slice x.1.1.1 x.1.2.length x.1.1.2) 47 17 x.1.2.length (flat Rs.cells x.1.2)]) rfl rfl rfl rfl rfl Tryz.func40 pofnm40 pofbd40 (fun w1 hw => ord_any A0 c0 l w1 (hr.up hw.bel) hl1 hok) ?_
 rintro ⟨⟨⟨R9, rc9⟩, o9⟩, hP9, hR91, hR92⟩
 dsimp only [List.cons_append, List.nil_append]
 dsimp only at hP9 hR91 hR92 ⊢
 refine TL.val rfl rfl rfl (gives_len rfl Tryz.underlying26 rfl) ?_
 refine TL.mv ?_
 refine TL.end_ (TX.then_ (TC.block ?_))
 refine TC.nilrow 47 17 ?_
 have hol := hP9.le
 refine TC.loop_ (α := {y : Nat × (Option Addr × Nat) × List Rs // y.1 ≤ o9.length ∧ ((o9.take y.1).filter (fun r => decide (trcR r = t)) = y.2.2) ∧ y.2.2.length ≤ y.1 ∧ y.2.2.length ≤ y.2.1.2 ∧ y.2.1.2 ≤ maxLen}) (fun y => [(3, .pointer (some ⟨g3, 0, none⟩)), (9, .slice R9 o9.length rc9), (10, .int .i64 (o9.length : Nat)), (11, .int .i64 ((y.1.1 : Nat) : Int)), (5, .slice y.1.2.1.1 y.1.2.2.length y.1.2.1.2)]) (fun y => Pm w [.row (.slice y.1.2.1.1 y.1.2.2.length y.1.2.1.2) 47 17 y.1.2.2.length (flat Rs.cells y.1.2.2), .row (.slice R9 o9.length rc9) 47 17 o9.length (flat Rs.cells o9), .blk g3 32 t.cells]) (fun y => o9.length - y.1.1) (⟨(0, (none, 0), []), Nat.zero_le _, rfl, Nat.le_refl _, Nat.le_refl _, Nat.zero_le _⟩) ⟨rfl, rfl, rfl, rfl, rfl, trivial⟩ (fun w1 hw => hw) ?_
 rintro ⟨⟨i, ⟨Ao, co⟩, out⟩, hi, hout, houtl, houtc, houtm⟩
 dsimp only at hi hout houtl houtc houtm ⊢
 refine TC.seq_ (TC.region ?_)
 refine TL.vsplit rfl rfl rfl (gives_bin rfl rfl rfl (fun w => bin_lss w)) (fun h12 => ?_) (fun h12 => ?_)
 ·have q12 := of_decide_eq_true h12
  refine TL.end_ (TX.then_ (TC.seq_ (TC.condT rfl (TC.skip_ (TX.then_ (TC.seq_ (TC.block (TC.seq_ (TC.region ?_)))))))))
  refine TL.fact (p := ∃ g, R9 = some ⟨g, 0, none⟩) (fun w1 hw => rowA hw (k := 1) rfl (by omega)) ?_
  rintro ⟨g_R9, rfl⟩
  have hi13 : i < o9.length := by omega
  obtain ⟨x13, hx13⟩ : ∃ x13, o9[i]? = some x13 := ⟨_, List.getElem?_eq_getElem hi13⟩
  refine TL.val rfl rfl rfl (gives_at (v := .pointer (some ⟨g_R9, 0 + i * 17, none⟩)) rfl rfl rfl (fun w => at_el Tryz.underlying26 prssz47 rfl _ _ i (by omega) rfl w)) ?_
  refine TL.val rfl rfl rfl (gives_loadR (off := 0 + i * 17) rfl rfl prsag47 prssz47 (rs_cel.len x13) (fun w1 hw j9 u9 h9 => flat_row rs_cel hw (q := 1) rfl hx13 j9 u9 h9)) ?_
  refine TL.pnew rfl rfl rfl (exec_alloc (cs := [.int .i64 0, .int .i64 0, .int .i64 0, .int .i64 0, .int .u32 0, .int .i64 0, .int .i64 0, .int .i64 0, .bool false, .bool false, .int .i64 0, .int .u32 0, .int .i64 0, .int .i64 0, .int .i64 0, .int .i64 0, .int .i64 0]) rfl pcpzv47 rfl) (fun g7 => ?_)
  refine TL.pstore (k := 0) (vs := x13.cells) rfl rfl rfl rfl rfl rfl rfl prssz47 (rs_cel.one _) (by show 17 ≤ 17; decide) (L' := [.blk g7 47 x13.cells, .row (.slice Ao out.length co) 47 17 out.length (flat Rs.cells out), .row (.slice (some ⟨g_R9, 0, none⟩) o9.length rc9) 47 17 o9.length (flat Rs.cells o9), .blk g3 32 t.cells]) rfl ?_
  refine TL.end_ (TX.then_ (TC.seq_ ?_))
  refine TC.quietQ (by kernel_rfl) (by kernel_rfl) (fun w hw => hw.drawn _) ?_
  refine TQ.val rfl rfl rfl (pm_loadV (k := 0) (i := 0) (n := 17) (v := .agg (x13.cells).toArray) rfl rfl prsag47 prssz47 rfl (by show 17 ≤ 17; decide) rfl) ?_
  refine TQ.call (v := .agg ((trcR x13).cells).toArray) rfl rfl rfl rfl rfl Tryz.func35 ptrnm35 ptrbd35 (fun w1 hw => (trc_any x13 w1).mono fun en w2 ⟨h1, h2⟩ => ⟨h1, hw.below h2⟩) ?_
  refine TQ.val rfl rfl rfl (pm_loadV (k := 3) (i := 0) (n := 3) (v := .agg (t.cells).toArray) rfl rfl pcpag32 prssz32 rfl (by show 3 ≤ 3; decide) rfl) ?_
  refine TQ.vsplit rfl rfl rfl (gives_bin2 rfl rfl rfl (fun w => trc_eql (trcR x13) t _ _ w)) (fun h18 => ?_) (fun h18 => ?_)
  ·have q18 := of_decide_eq_true h18
   refine TQ.fin ?_
   refine TX.then_ (TC.condT rfl (TC.region ?_))
   refine TL.mv ?_
   refine TL.val rfl rfl rfl (pm_loadV (k := 0) (i := 0) (n := 17) (v := .agg (x13.cells).toArray) rfl rfl prsag47 prssz47 rfl (by show 17 ≤ 17; decide) rfl) ?_
   refine TL.prowS (e := 47) (size := 17) (cs := flat Rs.cells [x13]) rfl rfl rfl rfl rfl (fun w => porbs26_1_99505 _ _ _ _ _ _ _ _ _ _ _ _ _ _ _ _ _ w) (by decide) rfl (fun g21 => ?_)
   refine TL.appendT (k := 2) rfl rfl rfl rfl Tryz.underlying26 porel26 rfl rfl rfl (fun w1 hw => pm_reads hw (k := 0) rfl) (flat_one rs_cel _) (by show _ * 128 ≤ _; omega) ((out ++ [x13]).length) (by rw [List.length_append]; rfl) (flat Rs.cells (out ++ [x13])) ((flat_app _ _).symm) (fun A22 c22 hA221 hA222 => ?_)
   refine TL.as_ ?_
   refine TL.end_ (TX.in_normal (TX.then_ (TC.region ?_)))
   refine TL.val rfl rfl rfl (gives_bin rfl rfl rfl (fun w => bin_add_ (r := ((i + 1 : Nat) : Int)) (by simp only [IntKind.wrap_i64]; omega) w)) ?_
   refine TL.mv ?_
   refine TL.end_ ?_
   exact TX.round (⟨(i + 1, (A22, c22), out ++ [x13]), by dsimp only; omega, filt_snoc_t (p := fun r => decide (trcR r = t)) hx13 (decide_eq_true q18) hout, by dsimp only; rw [List.length_append]; show out.length + 1 ≤ _; omega, hA221, hA222⟩) (by show o9.length - (i + 1) < o9.length - i; omega) ⟨rfl, rfl, rfl, rfl, rfl, trivial⟩ (fun w1 hw => hw.pick [2, 3, 4] (by decide) rfl)
  ·have q18 := of_decide_eq_false h18
   refine TQ.fin ?_
   refine TX.then_ (TC.condF rfl (TC.skip_ (TX.in_normal (TX.then_ (TC.region ?_)))))
   refine TL.val rfl rfl rfl (gives_bin rfl rfl rfl (fun w => bin_add_ (r := ((i + 1 : Nat) : Int)) (by simp only [IntKind.wrap_i64]; omega) w)) ?_
   refine TL.mv ?_
   refine TL.end_ ?_
   exact TX.round (⟨(i + 1, (Ao, co), out), by dsimp only; omega, filt_snoc_f (p := fun r => decide (trcR r = t)) hx13 (decide_eq_false q18) hout, by dsimp only; omega, houtc, houtm⟩) (by show o9.length - (i + 1) < o9.length - i; omega) ⟨rfl, rfl, rfl, rfl, rfl, trivial⟩ (fun w1 hw => hw.pick [1, 2, 3] (by decide) rfl)
 ·have q12 := of_decide_eq_false h12
  refine TL.end_ (TX.then_ (TC.seq_ (TC.condF rfl (TC.exit_ (TX.then_exit (TX.then_exit (TX.in_same (TX.then_ (TC.seq_ (TC.region ?_))))))))))
  refine TL.mv ?_
  refine TL.as_ ?_
  refine TL.end_ (TX.then_ (TC.ret_ ?_))
  exact ret_tmp Tryz.results42 rfl (fun w1 hw => ⟨⟨((Ao, co), out), ⟨o9, hP9, by rw [List.take_of_length_le (by omega)] at hout; exact hout.symm⟩, by dsimp only; omega, houtm⟩, rfl, hw.pick [0] (by decide) rfl⟩)
set_option maxHeartbeats 1000000 in
theorem rof_any (A0 : Option Addr) (c0 : Nat) (l : List Rs) (t : Trc) (w : World) (hr : Reads w w.heap.size 17 A0 l.length (flat Rs.cells l)) (hl1 : l.length ≤ 100000) (hok : ∀ r ∈ l, r.Ok) :
  Calls Tryz.prog 43 #[.slice A0 l.length c0, .agg t.cells.toArray] w fun e w' => ∃ x : {y : (Option Addr × Nat) × List Rs // IsOf l t y.2 ∧ y.2.length ≤ y.1.2 ∧ y.1.2 ≤ maxLen}, e = .returned (.slice x.1.1.1 x.1.2.length x.1.1.2) ∧ Pm w [.row (.slice x.1.1.1 x.1.2.length x.1.1.2) 47 17 x.1.2.length (flat Rs.cells x.1.2)] w' := by
 refine begin_ (vs := [.slice A0 l.length c0, .agg t.cells.toArray]) Tryz.func43 rfl rfl rfl ?_ (Pm.start w)
 refine TC.seq_ (TC.region ?_)
 refine TL.pnew rfl rfl rfl (exec_box (cs := t.cells) rfl rfl rfl) (fun g3 => ?_)
 refine TL.as_ ?_
 refine TL.end_ (TX.then_ (TC.seq_ (TC.region ?_)))
 refine TL.mv ?_
 refine TL.pcallPm (α := {y : (Option Addr × Nat) × List Rs // IsOrd l y.2 ∧ y.2.length ≤ y.1.2 ∧ y.1.2 ≤ maxLen}) (fun x => .slice x.1.1.1 x.1.2.length x.1.1.2) (fun x => [.row (.slice x.1.1.1 x.1.2.length x.1.1.2) 47 17 x.1.2.length (flat Rs.cells x.1.2)]) rfl rfl rfl rfl rfl Tryz.func41 pofnm41 pofbd41 (fun w1 hw => rord_any A0 c0 l w1 (hr.up hw.bel) hl1 hok) ?_
 rintro ⟨⟨⟨R9, rc9⟩, o9⟩, hP9, hR91, hR92⟩
 dsimp only [List.cons_append, List.nil_append]
 dsimp only at hP9 hR91 hR92 ⊢
 refine TL.as_ ?_
 refine TL.end_ (TX.then_ (TC.seq_ (TC.region ?_)))
 refine TL.as_ ?_
 refine TL.end_ (TX.then_ (TC.seq_ (TC.seq_ (TC.region ?_))))
 refine TL.as_ ?_
 refine TL.end_ (TX.then_ (TC.block ?_))
 refine TC.nilrow 47 17 ?_
 have hol := hP9.le
 refine TC.loop_ (α := {y : Nat × (Option Addr × Nat) × List Rs // y.1 ≤ o9.length ∧ ((o9.take y.1).filter (fun r => decide (trcR r = t)) = y.2.2) ∧ y.2.2.length ≤ y.1 ∧ y.2.2.length ≤ y.2.1.2 ∧ y.2.1.2 ≤ maxLen}) (fun y => [(3, .pointer (some ⟨g3, 0, none⟩)), (5, .slice R9 o9.length rc9), (7, .int .i64 ((y.1.1 : Nat) : Int)), (6, .slice y.1.2.1.1 y.1.2.2.length y.1.2.1.2)]) (fun y => Pm w [.row (.slice y.1.2.1.1 y.1.2.2.length y.1.2.1.2) 47 17 y.1.2.2.length (flat Rs.cells y.1.2.2), .row (.slice R9 o9.length rc9) 47 17 o9.length (flat Rs.cells o9), .blk g3 32 t.cells]) (fun y => o9.length - y.1.1) (⟨(0, (none, 0), []), Nat.zero_le _, rfl, Nat.le_refl _, Nat.le_refl _, Nat.zero_le _⟩) ⟨rfl, rfl, rfl, rfl, trivial⟩ (fun w1 hw => hw) ?_
 rintro ⟨⟨i, ⟨Ao, co⟩, out⟩, hi, hout, houtl, houtc, houtm⟩
 dsimp only at hi hout houtl houtc houtm ⊢
 refine TC.seq_ (TC.seq_ (TC.region ?_))
 refine TL.mv ?_
 refine TL.mv ?_
 refine TL.val rfl rfl rfl (gives_len rfl Tryz.underlying26 rfl) ?_
 refine TL.vsplit rfl rfl rfl (gives_bin rfl rfl rfl (fun w => bin_lss w)) (fun h13 => ?_) (fun h13 => ?_)
 ·have q13 := of_decide_eq_true h13
  refine TL.end_ (TX.then_ (TC.condT rfl (TC.skip_ (TX.then_ (TC.seq_ (TC.block (TC.seq_ ?_)))))))
  refine TC.fact (p := ∃ g, R9 = some ⟨g, 0, none⟩) (fun w1 hw => rowA hw (k := 1) rfl (by omega)) ?_
  rintro ⟨g_R9, rfl⟩
  refine TC.quietQ (by kernel_rfl) (by kernel_rfl) (fun w hw => hw.drawn _) ?_
  refine TQ.val rfl rfl rfl (gives_move rfl rfl) ?_
  refine TQ.val rfl rfl rfl (gives_move rfl rfl) ?_
  have hi18 : i < o9.length := by omega
  obtain ⟨x18, hx18⟩ : ∃ x18, o9[i]? = some x18 := ⟨_, List.getElem?_eq_getElem hi18⟩
  refine TQ.val rfl rfl rfl (gives_at (v := .pointer (some ⟨g_R9, 0 + i * 17, none⟩)) rfl rfl rfl (fun w => at_el Tryz.underlying26 prssz47 rfl _ _ i (by omega) rfl w)) ?_
  refine TQ.val rfl rfl rfl (gives_loadR (off := 0 + i * 17) rfl rfl prsag47 prssz47 (rs_cel.len x18) (fun w1 hw j9 u9 h9 => flat_row rs_cel hw (q := 1) rfl hx18 j9 u9 h9)) ?_
  refine TQ.call (v := .agg ((trcR x18).cells).toArray) rfl rfl rfl rfl rfl Tryz.func36 ptrnm36 ptrbd36 (fun w1 hw => (rtrc_any x18 w1).mono fun en w2 ⟨h1, h2⟩ => ⟨h1, hw.below h2⟩) ?_
  refine TQ.val rfl rfl rfl (pm_loadV (k := 2) (i := 0) (n := 3) (v := .agg (t.cells).toArray) rfl rfl pcpag32 prssz32 rfl (by show 3 ≤ 3; decide) rfl) ?_
  refine TQ.vsplit rfl rfl rfl (gives_bin2 rfl rfl rfl (fun w => trc_eql (trcR x18) t _ _ w)) (fun h22 => ?_) (fun h22 => ?_)
  ·have q22 := of_decide_eq_true h22
   refine TQ.fin ?_
   refine TX.then_ (TC.condT rfl (TC.region ?_))
   refine TL.mv ?_
   refine TL.mv ?_
   refine TL.mv ?_
   refine TL.val rfl rfl rfl (gives_at (v := .pointer (some ⟨g_R9, 0 + i * 17, none⟩)) rfl rfl rfl (fun w => at_el Tryz.underlying26 prssz47 rfl _ _ i (by omega) rfl w)) ?_
   refine TL.val rfl rfl rfl (gives_loadR (off := 0 + i * 17) rfl rfl prsag47 prssz47 (rs_cel.len x18) (fun w1 hw j9 u9 h9 => flat_row rs_cel hw (q := 1) rfl hx18 j9 u9 h9)) ?_
   refine TL.prowS (e := 47) (size := 17) (cs := flat Rs.cells [x18]) rfl rfl rfl rfl rfl (fun w => porbs26_1_99505 _ _ _ _ _ _ _ _ _ _ _ _ _ _ _ _ _ w) (by decide) rfl (fun g28 => ?_)
   refine TL.appendT (k := 1) rfl rfl rfl rfl Tryz.underlying26 porel26 rfl rfl rfl (fun w1 hw => pm_reads hw (k := 0) rfl) (flat_one rs_cel _) (by show _ * 128 ≤ _; omega) ((out ++ [x18]).length) (by rw [List.length_append]; rfl) (flat Rs.cells (out ++ [x18])) ((flat_app _ _).symm) (fun A29 c29 hA291 hA292 => ?_)
   refine TL.as_ ?_
   refine TL.end_ (TX.in_normal (TX.then_ (TC.region ?_)))
   refine TL.mv ?_
   refine TL.val rfl rfl rfl (gives_bin rfl rfl rfl (fun w => bin_add_ (r := ((i + 1 : Nat) : Int)) (by simp only [IntKind.wrap_i64]; omega) w)) ?_
   refine TL.as_ ?_
   refine TL.end_ ?_
   exact TX.round (⟨(i + 1, (A29, c29), out ++ [x18]), by dsimp only; omega, filt_snoc_t (p := fun r => decide (trcR r = t)) hx18 (decide_eq_true q22) hout, by dsimp only; rw [List.length_append]; show out.length + 1 ≤ _; omega, hA291, hA292⟩) (by show o9.length - (i + 1) < o9.length - i; omega) ⟨rfl, rfl, rfl, rfl, trivial⟩ (fun w1 hw => hw.pick [1, 2, 3] (by decide) rfl)
  ·have q22 := of_decide_eq_false h22
   refine TQ.fin ?_
   refine TX.then_ (TC.condF rfl (TC.skip_ (TX.in_normal (TX.then_ (TC.region ?_)))))
   refine TL.mv ?_
   refine TL.val rfl rfl rfl (gives_bin rfl rfl rfl (fun w => bin_add_ (r := ((i + 1 : Nat) : Int)) (by simp only [IntKind.wrap_i64]; omega) w)) ?_
   refine TL.as_ ?_
   refine TL.end_ ?_
   exact TX.round (⟨(i + 1, (Ao, co), out), by dsimp only; omega, filt_snoc_f (p := fun r => decide (trcR r = t)) hx18 (decide_eq_false q22) hout, by dsimp only; omega, houtc, houtm⟩) (by show o9.length - (i + 1) < o9.length - i; omega) ⟨rfl, rfl, rfl, rfl, trivial⟩ (fun w1 hw => hw)
 ·have q13 := of_decide_eq_false h13
  refine TL.end_ (TX.then_ (TC.condF rfl (TC.exit_ (TX.then_exit (TX.then_exit (TX.in_same (TX.then_ (TC.seq_ (TC.region ?_)))))))))
  refine TL.mv ?_
  refine TL.as_ ?_
  refine TL.end_ (TX.then_ (TC.ret_ ?_))
  exact ret_tmp Tryz.results43 rfl (fun w1 hw => ⟨⟨((Ao, co), out), ⟨o9, hP9, by rw [List.take_of_length_le (by omega)] at hout; exact hout.symm⟩, by dsimp only; omega, houtm⟩, rfl, hw.pick [0] (by decide) rfl⟩)
set_option maxHeartbeats 1000000 in
theorem find_any (A0 : Option Addr) (c0 : Nat) (l : List Rs) (u : Idn) (w : World) (hr : Reads w w.heap.size 17 A0 l.length (flat Rs.cells l)) (hl1 : l.length ≤ 100000) :
  Calls Tryz.prog 45 #[.slice A0 l.length c0, .agg u.cells.toArray] w fun e w' => e = .returned (.tuple #[.agg (findS l u).1.cells.toArray, .bool (findS l u).2]) ∧ Below w.heap.size w w' := by
 refine begin_ (vs := [.slice A0 l.length c0, .agg u.cells.toArray]) Tryz.func45 rfl rfl rfl ?_ (Pm.start w)
 refine TC.seq_ (TC.region ?_)
 refine TL.pnew rfl rfl rfl (exec_box (cs := u.cells) rfl rfl rfl) (fun g3 => ?_)
 refine TL.pnew rfl rfl rfl (exec_alloc (cs := Rs.zero.cells) rfl pcpzv47 rfl) (fun g4 => ?_)
 refine TL.as_ ?_
 refine TL.end_ (TX.then_ (TC.seq_ (TC.region ?_)))
 refine TL.pnew rfl rfl rfl (exec_alloc (cs := Rs.zero.cells) rfl pcpzv47 rfl) (fun g6 => ?_)
 refine TL.end_ (TX.then_ (TC.seq_ (TC.region ?_)))
 refine TL.as_ ?_
 refine TL.end_ (TX.then_ (TC.seq_ (TC.seq_ (TC.region ?_))))
 refine TL.mv ?_
 refine TL.val rfl rfl rfl (gives_len rfl Tryz.underlying26 rfl) ?_
 refine TL.mv ?_
 refine TL.end_ (TX.then_ (TC.block ?_))
 refine TC.loop_ (α := {y : Nat × Rs × Bool // y.1 ≤ l.length ∧ findS (l.take y.1) u = y.2}) (fun y => [(3, .pointer (some ⟨g3, 0, none⟩)), (4, .pointer (some ⟨g4, 0, none⟩)), (5, .bool false), (6, .pointer (some ⟨g6, 0, none⟩)), (10, .slice A0 l.length c0), (11, .int .i64 (l.length : Nat)), (12, .int .i64 ((y.1.1 : Nat) : Int)), (7, .bool y.1.2.2)]) (fun y => Pm w [.blk g6 47 y.1.2.1.cells, .blk g4 47 Rs.zero.cells, .blk g3 67 u.cells]) (fun y => l.length - y.1.1) (⟨(0, Rs.zero, false), Nat.zero_le _, rfl⟩) ⟨rfl, rfl, rfl, rfl, rfl, rfl, rfl, rfl, trivial⟩ (fun w1 hw => hw) ?_
 rintro ⟨⟨i, bst, fnd⟩, hi, hst⟩
 dsimp only at hi hst ⊢
 refine TC.seq_ ?_
 cases fnd with
 | true =>
  refine TC.region ?_
  refine TL.vsplit rfl rfl rfl (gives_bin rfl rfl rfl (fun w => bin_lss w)) (fun h13 => ?_) (fun h13 => ?_)
  ·have q13 := of_decide_eq_true h13
   refine TL.end_ (TX.then_ (TC.seq_ (TC.condT rfl (TC.skip_ (TX.then_ (TC.seq_ (TC.block (TC.seq_ (TC.region ?_)))))))))
   have hi14 : i < l.length := by omega
   obtain ⟨x14, hx14⟩ : ∃ x14, l[i]? = some x14 := ⟨_, List.getElem?_eq_getElem hi14⟩
   obtain ⟨b14, o14, hA14, hbb14, hc14⟩ := hr.ad (by omega) (by decide)
   refine TL.val rfl rfl rfl (gives_at (v := .pointer (some ⟨b14, o14 + i * 17, none⟩)) rfl rfl rfl (fun w => at_el Tryz.underlying26 prssz47 hA14 _ _ i (by omega) rfl w)) ?_
   refine TL.val rfl rfl rfl (gives_loadR (off := o14 + i * 17) rfl rfl prsag47 prssz47 (rs_cel.len x14) (fun w1 hw j9 u9 h9 => (hw.bel.cell hbb14).trans <| flat_cell rs_cel hx14 hc14 j9 u9 h9)) ?_
   refine TL.pnew rfl rfl rfl (exec_alloc (cs := Rs.zero.cells) rfl pcpzv47 rfl) (fun g9 => ?_)
   refine TL.pstore (k := 0) (vs := x14.cells) rfl rfl rfl rfl rfl rfl rfl prssz47 (rs_cel.one _) (by show 17 ≤ 17; decide) (L' := [.blk g9 47 x14.cells, .blk g6 47 bst.cells, .blk g4 47 Rs.zero.cells, .blk g3 67 u.cells]) rfl ?_
   refine TL.end_ (TX.then_ (TC.seq_ ?_))
   refine TC.quietQ (by kernel_rfl) (by kernel_rfl) (fun w hw => hw.drawn _) ?_
   refine TQ.val rfl rfl rfl (pm_loadV (k := 0) (i := 0) (n := 17) (v := .agg (x14.cells).toArray) rfl rfl prsag47 prssz47 rfl (by show 17 ≤ 17; decide) rfl) ?_
   refine TQ.call (v := .agg ((idnR x14).cells).toArray) rfl rfl rfl rfl rfl Tryz.func33 pofnm33 pofbd33 (fun w1 hw => (idn_any x14 w1).mono fun en w2 ⟨h1, h2⟩ => ⟨h1, hw.below h2⟩) ?_
   refine TQ.val rfl rfl rfl (pm_loadV (k := 3) (i := 0) (n := 3) (v := .agg (u.cells).toArray) rfl rfl pofag67 prssz67 rfl (by show 3 ≤ 3; decide) rfl) ?_
   refine TQ.vsplit rfl rfl rfl (gives_bin2 rfl rfl rfl (fun w => idn_eql (idnR x14) u _ _ w)) (fun h19 => ?_) (fun h19 => ?_)
   ·have q19 := of_decide_eq_true h19
    iterate 4 (first | refine TQ.val rfl rfl rfl (gives_move rfl rfl) ?_ | refine TQ.on rfl rfl rfl ?_)
    refine TQ.val rfl rfl rfl (gives_boolnot rfl rfl) ?_
    refine TQ.on rfl rfl rfl ?_
    refine TQ.val rfl rfl rfl (gives_move rfl rfl) ?_
    refine TQ.on rfl rfl rfl ?_
    refine TQ.val rfl rfl rfl (pm_loadV (k := 0) (i := 0) (n := 17) (v := .agg (x14.cells).toArray) rfl rfl prsag47 prssz47 rfl (by show 17 ≤ 17; decide) rfl) ?_
    refine TQ.on rfl rfl rfl ?_
    refine TQ.val rfl rfl rfl (pm_loadV (k := 1) (i := 0) (n := 17) (v := .agg (bst.cells).toArray) rfl rfl prsag47 prssz47 rfl (by show 17 ≤ 17; decide) rfl) ?_
    refine TQ.on rfl rfl rfl ?_
    refine TQ.call (v := .int .i64 (cmpRs x14 bst)) rfl rfl rfl rfl rfl Tryz.func31 pofnm31 pofbd31 (fun w1 hw => (cmpRs_any x14 bst w1).mono fun en w2 ⟨h1, h2⟩ => ⟨h1, hw.below h2⟩) ?_
    refine TQ.on rfl rfl rfl ?_
    refine TQ.vsplit rfl rfl rfl (gives_bin rfl rfl rfl (fun w => bin_lss w)) (fun h27 => ?_) (fun h27 => ?_)
    ·have q27 := of_decide_eq_true h27
     iterate 5 (first | refine TQ.on rfl rfl rfl ?_ | refine TQ.val rfl rfl rfl (gives_pick rfl rfl rfl) ?_ | refine TQ.val rfl rfl rfl (gives_move rfl rfl) ?_)
     refine TQ.val rfl rfl rfl (pm_loadV (k := 0) (i := 0) (n := 17) (v := .agg (x14.cells).toArray) rfl rfl prsag47 prssz47 rfl (by show 17 ≤ 17; decide) rfl) ?_
     refine TQ.on rfl rfl rfl ?_
     refine TQ.callsplit rfl rfl rfl rfl rfl Tryz.func26 prsnm26 prsbd26 (fun w1 hw => vldRs_any x14 w1) (fun h32 => ?_) (fun h32 => ?_)
     ·refine TQ.val rfl rfl rfl (gives_pick rfl rfl rfl) ?_
      refine TQ.fin ?_
      refine TX.then_ (TC.condT rfl (TC.region ?_))
      refine TL.val rfl rfl rfl (pm_loadV (k := 0) (i := 0) (n := 17) (v := .agg (x14.cells).toArray) rfl rfl prsag47 prssz47 rfl (by show 17 ≤ 17; decide) rfl) ?_
      refine TL.pstore (k := 1) (vs := x14.cells) rfl rfl rfl rfl rfl rfl rfl prssz47 (rs_cel.one _) (by show 17 ≤ 17; decide) (L' := [.blk g9 47 x14.cells, .blk g6 47 x14.cells, .blk g4 47 Rs.zero.cells, .blk g3 67 u.cells]) rfl ?_
      refine TL.as_ ?_
      refine TL.end_ (TX.in_normal (TX.then_ (TC.region ?_)))
      refine TL.val rfl rfl rfl (gives_bin rfl rfl rfl (fun w => bin_add_ (r := ((i + 1 : Nat) : Int)) (by simp only [IntKind.wrap_i64]; omega) w)) ?_
      refine TL.mv ?_
      refine TL.end_ ?_
      exact TX.round (⟨(i + 1, x14, true), by dsimp only; omega, by rw [findS_snoc hx14 hst, if_pos (by simp [fitF, q13, q19, q27, h32])]⟩) (by show l.length - (i + 1) < l.length - i; omega) ⟨rfl, rfl, rfl, rfl, rfl, rfl, rfl, rfl, trivial⟩ (fun w1 hw => hw.pick [1, 2, 3] (by decide) rfl)
     ·refine TQ.val rfl rfl rfl (gives_pick rfl rfl rfl) ?_
      refine TQ.fin ?_
      refine TX.then_ (TC.condF rfl (TC.skip_ (TX.in_normal (TX.then_ (TC.region ?_)))))
      refine TL.val rfl rfl rfl (gives_bin rfl rfl rfl (fun w => bin_add_ (r := ((i + 1 : Nat) : Int)) (by simp only [IntKind.wrap_i64]; omega) w)) ?_
      refine TL.mv ?_
      refine TL.end_ ?_
      exact TX.round (⟨(i + 1, bst, true), by dsimp only; omega, by rw [findS_snoc hx14 hst, if_neg (by simp [fitF, q13, q19, q27, h32])]⟩) (by show l.length - (i + 1) < l.length - i; omega) ⟨rfl, rfl, rfl, rfl, rfl, rfl, rfl, rfl, trivial⟩ (fun w1 hw => hw.pick [1, 2, 3] (by decide) rfl)
    ·have q27 := of_decide_eq_false h27
     iterate 7 (first | refine TQ.val rfl rfl rfl (gives_pick rfl rfl rfl) ?_ | refine TQ.off rfl rfl rfl rfl rfl rfl ?_ | refine TQ.val rfl rfl rfl (gives_move rfl rfl) ?_ | refine TQ.on rfl rfl rfl ?_)
     refine TQ.fin ?_
     refine TX.then_ (TC.condF rfl (TC.skip_ (TX.in_normal (TX.then_ (TC.region ?_)))))
     refine TL.val rfl rfl rfl (gives_bin rfl rfl rfl (fun w => bin_add_ (r := ((i + 1 : Nat) : Int)) (by simp only [IntKind.wrap_i64]; omega) w)) ?_
     refine TL.mv ?_
     refine TL.end_ ?_
     exact TX.round (⟨(i + 1, bst, true), by dsimp only; omega, by rw [findS_snoc hx14 hst, if_neg (by simp [fitF, q13, q19, q27])]⟩) (by show l.length - (i + 1) < l.length - i; omega) ⟨rfl, rfl, rfl, rfl, rfl, rfl, rfl, rfl, trivial⟩ (fun w1 hw => hw.pick [1, 2, 3] (by decide) rfl)
   ·have q19 := of_decide_eq_false h19
    iterate 4 (first | refine TQ.off rfl rfl rfl rfl rfl rfl ?_ | refine TQ.val rfl rfl rfl (gives_move rfl rfl) ?_)
    refine TQ.offU rfl rfl rfl rfl rfl ?_
    refine TQ.offU rfl rfl rfl rfl rfl ?_
    refine TQ.offU rfl rfl rfl rfl rfl ?_
    refine TQ.offU rfl rfl rfl rfl rfl ?_
    iterate 6 (first | refine TQ.off rfl rfl rfl rfl rfl rfl ?_ | refine TQ.val rfl rfl rfl (gives_pick rfl rfl rfl) ?_ | refine TQ.val rfl rfl rfl (gives_move rfl rfl) ?_)
    refine TQ.fin ?_
    refine TX.then_ (TC.condF rfl (TC.skip_ (TX.in_normal (TX.then_ (TC.region ?_)))))
    refine TL.val rfl rfl rfl (gives_bin rfl rfl rfl (fun w => bin_add_ (r := ((i + 1 : Nat) : Int)) (by simp only [IntKind.wrap_i64]; omega) w)) ?_
    refine TL.mv ?_
    refine TL.end_ ?_
    exact TX.round (⟨(i + 1, bst, true), by dsimp only; omega, by rw [findS_snoc hx14 hst, if_neg (by simp [fitF, q13, q19])]⟩) (by show l.length - (i + 1) < l.length - i; omega) ⟨rfl, rfl, rfl, rfl, rfl, rfl, rfl, rfl, trivial⟩ (fun w1 hw => hw.pick [1, 2, 3] (by decide) rfl)
  ·have q13 := of_decide_eq_false h13
   refine TL.end_ (TX.then_ (TC.seq_ (TC.condF rfl (TC.exit_ (TX.then_exit (TX.then_exit (TX.in_same (TX.then_ (TC.seq_ (TC.region ?_))))))))))
   refine TL.val rfl rfl rfl (pm_loadV (k := 0) (i := 0) (n := 17) (v := .agg (bst.cells).toArray) rfl rfl prsag47 prssz47 rfl (by show 17 ≤ 17; decide) rfl) ?_
   refine TL.mv ?_
   refine TL.pstore (k := 1) (vs := bst.cells) rfl rfl rfl rfl rfl rfl rfl prssz47 (rs_cel.one _) (by show 17 ≤ 17; decide) (L' := [.blk g6 47 bst.cells, .blk g4 47 bst.cells, .blk g3 67 u.cells]) rfl ?_
   refine TL.as_ ?_
   refine TL.end_ (TX.then_ (TC.ret_ ?_))
   have hE : findS l u = (bst, true) := by rw [List.take_of_length_le (by omega)] at hst; exact hst
   exact ret_cell2 (k := 1) (v := .bool true) Tryz.results45 rfl rfl rfl Tryz.underlying47 rfl rfl (fun w1 hw => ⟨by rw [hE], hw.bel⟩)
 | false =>
  refine TC.region ?_
  refine TL.vsplit rfl rfl rfl (gives_bin rfl rfl rfl (fun w => bin_lss w)) (fun h13 => ?_) (fun h13 => ?_)
  ·have q13 := of_decide_eq_true h13
   refine TL.end_ (TX.then_ (TC.seq_ (TC.condT rfl (TC.skip_ (TX.then_ (TC.seq_ (TC.block (TC.seq_ (TC.region ?_)))))))))
   have hi14 : i < l.length := by omega
   obtain ⟨x14, hx14⟩ : ∃ x14, l[i]? = some x14 := ⟨_, List.getElem?_eq_getElem hi14⟩
   obtain ⟨b14, o14, hA14, hbb14, hc14⟩ := hr.ad (by omega) (by decide)
   refine TL.val rfl rfl rfl (gives_at (v := .pointer (some ⟨b14, o14 + i * 17, none⟩)) rfl rfl rfl (fun w => at_el Tryz.underlying26 prssz47 hA14 _ _ i (by omega) rfl w)) ?_
   refine TL.val rfl rfl rfl (gives_loadR (off := o14 + i * 17) rfl rfl prsag47 prssz47 (rs_cel.len x14) (fun w1 hw j9 u9 h9 => (hw.bel.cell hbb14).trans <| flat_cell rs_cel hx14 hc14 j9 u9 h9)) ?_
   refine TL.pnew rfl rfl rfl (exec_alloc (cs := Rs.zero.cells) rfl pcpzv47 rfl) (fun g9 => ?_)
   refine TL.pstore (k := 0) (vs := x14.cells) rfl rfl rfl rfl rfl rfl rfl prssz47 (rs_cel.one _) (by show 17 ≤ 17; decide) (L' := [.blk g9 47 x14.cells, .blk g6 47 bst.cells, .blk g4 47 Rs.zero.cells, .blk g3 67 u.cells]) rfl ?_
   refine TL.end_ (TX.then_ (TC.seq_ ?_))
   refine TC.quietQ (by kernel_rfl) (by kernel_rfl) (fun w hw => hw.drawn _) ?_
   refine TQ.val rfl rfl rfl (pm_loadV (k := 0) (i := 0) (n := 17) (v := .agg (x14.cells).toArray) rfl rfl prsag47 prssz47 rfl (by show 17 ≤ 17; decide) rfl) ?_
   refine TQ.call (v := .agg ((idnR x14).cells).toArray) rfl rfl rfl rfl rfl Tryz.func33 pofnm33 pofbd33 (fun w1 hw => (idn_any x14 w1).mono fun en w2 ⟨h1, h2⟩ => ⟨h1, hw.below h2⟩) ?_
   refine TQ.val rfl rfl rfl (pm_loadV (k := 3) (i := 0) (n := 3) (v := .agg (u.cells).toArray) rfl rfl pofag67 prssz67 rfl (by show 3 ≤ 3; decide) rfl) ?_
   refine TQ.vsplit rfl rfl rfl (gives_bin2 rfl rfl rfl (fun w => idn_eql (idnR x14) u _ _ w)) (fun h19 => ?_) (fun h19 => ?_)
   ·have q19 := of_decide_eq_true h19
    iterate 4 (first | refine TQ.val rfl rfl rfl (gives_move rfl rfl) ?_ | refine TQ.on rfl rfl rfl ?_)
    refine TQ.val rfl rfl rfl (gives_boolnot rfl rfl) ?_
    iterate 11 (first | refine TQ.off rfl rfl rfl rfl rfl rfl ?_ | refine TQ.on rfl rfl rfl ?_ | refine TQ.val rfl rfl rfl (gives_move rfl rfl) ?_ | refine TQ.val rfl rfl rfl (gives_pick rfl rfl rfl) ?_)
    refine TQ.val rfl rfl rfl (pm_loadV (k := 0) (i := 0) (n := 17) (v := .agg (x14.cells).toArray) rfl rfl prsag47 prssz47 rfl (by show 17 ≤ 17; decide) rfl) ?_
    refine TQ.on rfl rfl rfl ?_
    refine TQ.callsplit rfl rfl rfl rfl rfl Tryz.func26 prsnm26 prsbd26 (fun w1 hw => vldRs_any x14 w1) (fun h32 => ?_) (fun h32 => ?_)
    ·refine TQ.val rfl rfl rfl (gives_pick rfl rfl rfl) ?_
     refine TQ.fin ?_
     refine TX.then_ (TC.condT rfl (TC.region ?_))
     refine TL.val rfl rfl rfl (pm_loadV (k := 0) (i := 0) (n := 17) (v := .agg (x14.cells).toArray) rfl rfl prsag47 prssz47 rfl (by show 17 ≤ 17; decide) rfl) ?_
     refine TL.pstore (k := 1) (vs := x14.cells) rfl rfl rfl rfl rfl rfl rfl prssz47 (rs_cel.one _) (by show 17 ≤ 17; decide) (L' := [.blk g9 47 x14.cells, .blk g6 47 x14.cells, .blk g4 47 Rs.zero.cells, .blk g3 67 u.cells]) rfl ?_
     refine TL.as_ ?_
     refine TL.end_ (TX.in_normal (TX.then_ (TC.region ?_)))
     refine TL.val rfl rfl rfl (gives_bin rfl rfl rfl (fun w => bin_add_ (r := ((i + 1 : Nat) : Int)) (by simp only [IntKind.wrap_i64]; omega) w)) ?_
     refine TL.mv ?_
     refine TL.end_ ?_
     exact TX.round (⟨(i + 1, x14, true), by dsimp only; omega, by rw [findS_snoc hx14 hst, if_pos (by simp [fitF, q13, q19, h32])]⟩) (by show l.length - (i + 1) < l.length - i; omega) ⟨rfl, rfl, rfl, rfl, rfl, rfl, rfl, rfl, trivial⟩ (fun w1 hw => hw.pick [1, 2, 3] (by decide) rfl)
    ·refine TQ.val rfl rfl rfl (gives_pick rfl rfl rfl) ?_
     refine TQ.fin ?_
     refine TX.then_ (TC.condF rfl (TC.skip_ (TX.in_normal (TX.then_ (TC.region ?_)))))
     refine TL.val rfl rfl rfl (gives_bin rfl rfl rfl (fun w => bin_add_ (r := ((i + 1 : Nat) : Int)) (by simp only [IntKind.wrap_i64]; omega) w)) ?_
     refine TL.mv ?_
     refine TL.end_ ?_
     exact TX.round (⟨(i + 1, bst, false), by dsimp only; omega, by rw [findS_snoc hx14 hst, if_neg (by simp [fitF, q13, q19, h32])]⟩) (by show l.length - (i + 1) < l.length - i; omega) ⟨rfl, rfl, rfl, rfl, rfl, rfl, rfl, rfl, trivial⟩ (fun w1 hw => hw.pick [1, 2, 3] (by decide) rfl)
   ·have q19 := of_decide_eq_false h19
    iterate 4 (first | refine TQ.off rfl rfl rfl rfl rfl rfl ?_ | refine TQ.val rfl rfl rfl (gives_move rfl rfl) ?_)
    refine TQ.offU rfl rfl rfl rfl rfl ?_
    refine TQ.offU rfl rfl rfl rfl rfl ?_
    refine TQ.offU rfl rfl rfl rfl rfl ?_
    refine TQ.offU rfl rfl rfl rfl rfl ?_
    iterate 6 (first | refine TQ.off rfl rfl rfl rfl rfl rfl ?_ | refine TQ.val rfl rfl rfl (gives_pick rfl rfl rfl) ?_ | refine TQ.val rfl rfl rfl (gives_move rfl rfl) ?_)
    refine TQ.fin ?_
    refine TX.then_ (TC.condF rfl (TC.skip_ (TX.in_normal (TX.then_ (TC.region ?_)))))
    refine TL.val rfl rfl rfl (gives_bin rfl rfl rfl (fun w => bin_add_ (r := ((i + 1 : Nat) : Int)) (by simp only [IntKind.wrap_i64]; omega) w)) ?_
    refine TL.mv ?_
    refine TL.end_ ?_
    exact TX.round (⟨(i + 1, bst, false), by dsimp only; omega, by rw [findS_snoc hx14 hst, if_neg (by simp [fitF, q13, q19])]⟩) (by show l.length - (i + 1) < l.length - i; omega) ⟨rfl, rfl, rfl, rfl, rfl, rfl, rfl, rfl, trivial⟩ (fun w1 hw => hw.pick [1, 2, 3] (by decide) rfl)
  ·have q13 := of_decide_eq_false h13
   refine TL.end_ (TX.then_ (TC.seq_ (TC.condF rfl (TC.exit_ (TX.then_exit (TX.then_exit (TX.in_same (TX.then_ (TC.seq_ (TC.region ?_))))))))))
   refine TL.val rfl rfl rfl (pm_loadV (k := 0) (i := 0) (n := 17) (v := .agg (bst.cells).toArray) rfl rfl prsag47 prssz47 rfl (by show 17 ≤ 17; decide) rfl) ?_
   refine TL.mv ?_
   refine TL.pstore (k := 1) (vs := bst.cells) rfl rfl rfl rfl rfl rfl rfl prssz47 (rs_cel.one _) (by show 17 ≤ 17; decide) (L' := [.blk g6 47 bst.cells, .blk g4 47 bst.cells, .blk g3 67 u.cells]) rfl ?_
   refine TL.as_ ?_
   refine TL.end_ (TX.then_ (TC.ret_ ?_))
   have hE : findS l u = (bst, false) := by rw [List.take_of_length_le (by omega)] at hst; exact hst
   exact ret_cell2 (k := 1) (v := .bool false) Tryz.results45 rfl rfl rfl Tryz.underlying47 rfl rfl (fun w1 hw => ⟨by rw [hE], hw.bel⟩)
set_option maxHeartbeats 1000000 in
theorem rfind_any (A0 : Option Addr) (c0 : Nat) (l : List Rs) (u : Idn) (w : World) (hr : Reads w w.heap.size 17 A0 l.length (flat Rs.cells l)) (hl1 : l.length ≤ 100000) (hok : ∀ r ∈ l, r.Ok) :
  Calls Tryz.prog 46 #[.slice A0 l.length c0, .agg u.cells.toArray] w fun e w' => ∃ x : {p : Rs × Bool // ∃ o, IsOrd l o ∧ rfindS o u = p}, e = .returned (.tuple #[.agg x.1.1.cells.toArray, .bool x.1.2]) ∧ Below w.heap.size w w' := by
 refine begin_ (vs := [.slice A0 l.length c0, .agg u.cells.toArray]) Tryz.func46 rfl rfl rfl ?_ (Pm.start w)
 refine TC.seq_ (TC.region ?_)
 refine TL.pnew rfl rfl rfl (exec_box (cs := u.cells) rfl rfl rfl) (fun g3 => ?_)
 refine TL.pnew rfl rfl rfl (exec_alloc (cs := Rs.zero.cells) rfl pcpzv47 rfl) (fun g4 => ?_)
 refine TL.as_ ?_
 refine TL.end_ (TX.then_ (TC.seq_ (TC.region ?_)))
 refine TL.mv ?_
 refine TL.pcallPm (α := {y : (Option Addr × Nat) × List Rs // IsOrd l y.2 ∧ y.2.length ≤ y.1.2 ∧ y.1.2 ≤ maxLen}) (fun x => .slice x.1.1.1 x.1.2.length x.1.1.2) (fun x => [.row (.slice x.1.1.1 x.1.2.length x.1.1.2) 47 17 x.1.2.length (flat Rs.cells x.1.2)]) rfl rfl rfl rfl rfl Tryz.func41 pofnm41 pofbd41 (fun w1 hw => rord_any A0 c0 l w1 (hr.up hw.bel) hl1 hok) ?_
 rintro ⟨⟨⟨R9, rc9⟩, o9⟩, hP9, hR91, hR92⟩
 dsimp only [List.cons_append, List.nil_append]
 dsimp only at hP9 hR91 hR92 ⊢
 refine TL.as_ ?_
 refine TL.end_ (TX.then_ (TC.seq_ (TC.seq_ (TC.region ?_))))
 refine TL.as_ ?_
 refine TL.end_ (TX.then_ (TC.block ?_))
 have hol := hP9.le
 refine TC.loop_ (α := {i : Nat // i ≤ o9.length ∧ (o9.drop i).find? (fun r => decide (idnR r = u)) = o9.find? (fun r => decide (idnR r = u))}) (fun y => [(3, .pointer (some ⟨g3, 0, none⟩)), (4, .pointer (some ⟨g4, 0, none⟩)), (5, .bool false), (6, .slice R9 o9.length rc9), (7, .int .i64 ((y.1 : Nat) : Int))]) (fun y => Pm w [.row (.slice R9 o9.length rc9) 47 17 o9.length (flat Rs.cells o9), .blk g4 47 Rs.zero.cells, .blk g3 67 u.cells]) (fun y => o9.length - y.1) (⟨0, Nat.zero_le _, rfl⟩) ⟨rfl, rfl, rfl, rfl, rfl, trivial⟩ (fun w1 hw => hw) ?_
 rintro ⟨i, hi, hfd⟩
 try dsimp only at hi hfd ⊢
 refine TC.seq_ (TC.seq_ (TC.region ?_))
 refine TL.mv ?_
 refine TL.mv ?_
 refine TL.val rfl rfl rfl (gives_len rfl Tryz.underlying26 rfl) ?_
 refine TL.vsplit rfl rfl rfl (gives_bin rfl rfl rfl (fun w => bin_lss w)) (fun h13 => ?_) (fun h13 => ?_)
 ·have q13 := of_decide_eq_true h13
  refine TL.end_ (TX.then_ (TC.condT rfl (TC.skip_ (TX.then_ (TC.seq_ (TC.block (TC.seq_ ?_)))))))
  refine TC.fact (p := ∃ g, R9 = some ⟨g, 0, none⟩) (fun w1 hw => rowA hw (k := 0) rfl (by omega)) ?_
  rintro ⟨g_R9, rfl⟩
  refine TC.quietQ (by kernel_rfl) (by kernel_rfl) (fun w hw => hw.drawn _) ?_
  refine TQ.val rfl rfl rfl (gives_move rfl rfl) ?_
  refine TQ.val rfl rfl rfl (gives_move rfl rfl) ?_
  have hi18 : i < o9.length := by omega
  obtain ⟨x18, hx18⟩ : ∃ x18, o9[i]? = some x18 := ⟨_, List.getElem?_eq_getElem hi18⟩
  have hdr : o9.drop i = x18 :: o9.drop (i + 1) := by obtain ⟨hlt, e⟩ := List.getElem?_eq_some_iff.1 hx18; rw [List.drop_eq_getElem_cons hlt, e]
  refine TQ.val rfl rfl rfl (gives_at (v := .pointer (some ⟨g_R9, 0 + i * 17, none⟩)) rfl rfl rfl (fun w => at_el Tryz.underlying26 prssz47 rfl _ _ i (by omega) rfl w)) ?_
  refine TQ.val rfl rfl rfl (gives_loadR (off := 0 + i * 17) rfl rfl prsag47 prssz47 (rs_cel.len x18) (fun w1 hw j9 u9 h9 => flat_row rs_cel hw (q := 0) rfl hx18 j9 u9 h9)) ?_
  refine TQ.call (v := .agg ((idnR x18).cells).toArray) rfl rfl rfl rfl rfl Tryz.func34 pofnm34 pofbd34 (fun w1 hw => (ridn_any x18 w1).mono fun en w2 ⟨h1, h2⟩ => ⟨h1, hw.below h2⟩) ?_
  refine TQ.val rfl rfl rfl (pm_loadV (k := 2) (i := 0) (n := 3) (v := .agg (u.cells).toArray) rfl rfl pofag67 prssz67 rfl (by show 3 ≤ 3; decide) rfl) ?_
  refine TQ.vsplit rfl rfl rfl (gives_bin2 rfl rfl rfl (fun w => idn_eql (idnR x18) u _ _ w)) (fun h22 => ?_) (fun h22 => ?_)
  ·have q22 := of_decide_eq_true h22
   refine TQ.fin ?_
   refine TX.then_ (TC.condT rfl (TC.seq_ (TC.region ?_)))
   refine TL.mv ?_
   refine TL.mv ?_
   refine TL.val rfl rfl rfl (gives_at (v := .pointer (some ⟨g_R9, 0 + i * 17, none⟩)) rfl rfl rfl (fun w => at_el Tryz.underlying26 prssz47 rfl _ _ i (by omega) rfl w)) ?_
   refine TL.val rfl rfl rfl (gives_loadR (off := 0 + i * 17) rfl rfl prsag47 prssz47 (rs_cel.len x18) (fun w1 hw j9 u9 h9 => flat_row rs_cel hw (q := 0) rfl hx18 j9 u9 h9)) ?_
   refine TL.pstore (k := 1) (vs := x18.cells) rfl rfl rfl rfl rfl rfl rfl prssz47 (rs_cel.one _) (by show 17 ≤ 17; decide) (L' := [.row (.slice (some ⟨g_R9, 0, none⟩) o9.length rc9) 47 17 o9.length (flat Rs.cells o9), .blk g4 47 x18.cells, .blk g3 67 u.cells]) rfl ?_
   refine TL.as_ ?_
   refine TL.end_ (TX.then_ (TC.ret_ (TX.in_ret (TX.then_ret (TX.then_ret (TX.in_ret (TX.then_ret ?_)))))))
   have hE : rfindS o9 u = (x18, true) := by unfold rfindS; rw [← hfd, hdr, List.find?_cons_of_pos (by exact decide_eq_true q22)]
   exact ret_cell2 (k := 1) (v := .bool true) Tryz.results46 rfl rfl rfl Tryz.underlying47 rfl rfl (fun w1 hw => ⟨⟨(x18, true), ⟨o9, hP9, hE⟩⟩, rfl, hw.bel⟩)
  ·have q22 := of_decide_eq_false h22
   have hfd2 : (o9.drop (i + 1)).find? (fun r => decide (idnR r = u)) = o9.find? (fun r => decide (idnR r = u)) := by rw [← hfd, hdr, List.find?_cons_of_neg (by simpa using q22)]
   refine TQ.fin ?_
   refine TX.then_ (TC.condF rfl (TC.skip_ (TX.in_normal (TX.then_ (TC.region ?_)))))
   refine TL.mv ?_
   refine TL.val rfl rfl rfl (gives_bin rfl rfl rfl (fun w => bin_add_ (r := ((i + 1 : Nat) : Int)) (by simp only [IntKind.wrap_i64]; omega) w)) ?_
   refine TL.as_ ?_
   refine TL.end_ ?_
   exact TX.round (⟨i + 1, by omega, hfd2⟩) (by show o9.length - (i + 1) < o9.length - i; omega) ⟨rfl, rfl, rfl, rfl, rfl, trivial⟩ (fun w1 hw => hw)
 ·have q13 := of_decide_eq_false h13
  refine TL.end_ (TX.then_ (TC.condF rfl (TC.exit_ (TX.then_exit (TX.then_exit (TX.in_same (TX.then_ (TC.seq_ (TC.region ?_)))))))))
  refine TL.val rfl rfl rfl (gives_build (v := .agg (Rs.zero.cells).toArray) rfl rfl (fun w => pofbld47_534  w)) ?_
  refine TL.pstore (k := 1) (vs := Rs.zero.cells) rfl rfl rfl rfl rfl rfl rfl prssz47 (rs_cel.one _) (by show 17 ≤ 17; decide) (L' := [.row (.slice R9 o9.length rc9) 47 17 o9.length (flat Rs.cells o9), .blk g4 47 Rs.zero.cells, .blk g3 67 u.cells]) rfl ?_
  refine TL.as_ ?_
  refine TL.end_ (TX.then_ (TC.ret_ ?_))
  have hE : rfindS o9 u = (Rs.zero, false) := by unfold rfindS; rw [← hfd, List.drop_of_length_le (by omega)]; rfl
  exact ret_cell2 (k := 1) (v := .bool false) Tryz.results46 rfl rfl rfl Tryz.underlying47 rfl rfl (fun w1 hw => ⟨⟨(Rs.zero, false), ⟨o9, hP9, hE⟩⟩, rfl, hw.bel⟩)
set_option maxHeartbeats 1000000 in
theorem sameRs_any (A0 : Option Addr) (c0 : Nat) (l : List Rs) (A1 : Option Addr) (c1 : Nat) (m : List Rs) (w : World) (hr : Reads w w.heap.size 17 A0 l.length (flat Rs.cells l)) (hr1 : Reads w w.heap.size 17 A1 m.length (flat Rs.cells m)) (hl1 : l.length ≤ 100000) :
  Calls Tryz.prog 39 #[.slice A0 l.length c0, .slice A1 m.length c1] w fun e w' => e = .returned (.bool (decide (l = m))) ∧ Below w.heap.size w w' := by
 refine begin_ (vs := [.slice A0 l.length c0, .slice A1 m.length c1]) Tryz.func39 rfl rfl rfl ?_ (Pm.start w)
 refine TC.seq_ (TC.region ?_)
 refine TL.as_ ?_
 refine TL.end_ (TX.then_ (TC.seq_ (TC.seq_ (TC.region ?_))))
 refine TL.mv ?_
 refine TL.val rfl rfl rfl (gives_len rfl Tryz.underlying26 rfl) ?_
 refine TL.mv ?_
 refine TL.val rfl rfl rfl (gives_len rfl Tryz.underlying26 rfl) ?_
 refine TL.vsplit rfl rfl rfl (gives_bin rfl rfl rfl (fun w => bin_neq w)) (fun h10 => ?_) (fun h10 => ?_)
 ·have q10 := of_decide_eq_true h10
  refine TL.end_ (TX.then_ (TC.condT rfl (TC.seq_ (TC.region ?_))))
  refine TL.as_ ?_
  refine TL.end_ (TX.then_ (TC.ret_ (TX.then_ret ?_)))
  exact ret_tmp Tryz.results39 rfl (fun w1 hw => ⟨by rw [decide_eq_false (fun h => by have := congrArg List.length h; omega)], hw.bel⟩)
 ·have q10 := of_decide_eq_false h10
  refine TL.end_ (TX.then_ (TC.condF rfl (TC.skip_ (TX.then_ (TC.seq_ (TC.seq_ (TC.region ?_)))))))
  refine TL.as_ ?_
  refine TL.end_ (TX.then_ (TC.block ?_))
  refine TC.loop_ (α := {i : Nat // i ≤ l.length ∧ ∀ j, j < i → l[j]? = m[j]?}) (fun y => [(0, .slice A0 l.length c0), (1, .slice A1 m.length c1), (5, .int .i64 ((y.1 : Nat) : Int))]) (fun y => Pm w []) (fun y => l.length - y.1) (⟨0, Nat.zero_le _, fun j hj => absurd hj (Nat.not_lt_zero _)⟩) ⟨rfl, rfl, rfl, trivial⟩ (fun w1 hw => hw) ?_
  rintro ⟨i, hi, he⟩
  try dsimp only at hi he ⊢
  refine TC.seq_ (TC.seq_ (TC.region ?_))
  refine TL.mv ?_
  refine TL.mv ?_
  refine TL.val rfl rfl rfl (gives_len rfl Tryz.underlying26 rfl) ?_
  refine TL.vsplit rfl rfl rfl (gives_bin rfl rfl rfl (fun w => bin_lss w)) (fun h14 => ?_) (fun h14 => ?_)
  ·have q14 := of_decide_eq_true h14
   refine TL.end_ (TX.then_ (TC.condT rfl (TC.skip_ (TX.then_ (TC.seq_ (TC.block (TC.seq_ ?_)))))))
   refine TC.quietQ (by kernel_rfl) (by kernel_rfl) (fun w hw => hw.drawn _) ?_
   refine TQ.val rfl rfl rfl (gives_move rfl rfl) ?_
   refine TQ.val rfl rfl rfl (gives_move rfl rfl) ?_
   have hi19 : i < l.length := by omega
   obtain ⟨x19, hx19⟩ : ∃ x19, l[i]? = some x19 := ⟨_, List.getElem?_eq_getElem hi19⟩
   obtain ⟨b19, o19, hA19, hbb19, hc19⟩ := hr.ad (by omega) (by decide)
   refine TQ.val rfl rfl rfl (gives_at (v := .pointer (some ⟨b19, o19 + i * 17, none⟩)) rfl rfl rfl (fun w => at_el Tryz.underlying26 prssz47 hA19 _ _ i (by omega) rfl w)) ?_
   refine TQ.val rfl rfl rfl (gives_loadR (off := o19 + i * 17) rfl rfl prsag47 prssz47 (rs_cel.len x19) (fun w1 hw j9 u9 h9 => (hw.bel.cell hbb19).trans <| flat_cell rs_cel hx19 hc19 j9 u9 h9)) ?_
   refine TQ.val rfl rfl rfl (gives_move rfl rfl) ?_
   refine TQ.val rfl rfl rfl (gives_move rfl rfl) ?_
   have hi23 : i < m.length := by omega
   obtain ⟨x23, hx23⟩ : ∃ x23, m[i]? = some x23 := ⟨_, List.getElem?_eq_getElem hi23⟩
   obtain ⟨b23, o23, hA23, hbb23, hc23⟩ := hr1.ad (by omega) (by decide)
   refine TQ.val rfl rfl rfl (gives_at (v := .pointer (some ⟨b23, o23 + i * 17, none⟩)) rfl rfl rfl (fun w => at_el Tryz.underlying26 prssz47 hA23 _ _ i (by omega) rfl w)) ?_
   refine TQ.val rfl rfl rfl (gives_loadR (off := o23 + i * 17) rfl rfl prsag47 prssz47 (rs_cel.len x23) (fun w1 hw j9 u9 h9 => (hw.bel.cell hbb23).trans <| flat_cell rs_cel hx23 hc23 j9 u9 h9)) ?_
   refine TQ.vsplit rfl rfl rfl (gives_bin2 rfl rfl rfl (fun w => rs_neqd x19 x23 _ _ w)) (fun h25 => ?_) (fun h25 => ?_)
   ·have q25 := of_decide_eq_true h25
    refine TQ.fin ?_
    refine TX.then_ (TC.condT rfl (TC.seq_ (TC.region ?_)))
    refine TL.as_ ?_
    refine TL.end_ (TX.then_ (TC.ret_ (TX.in_ret (TX.then_ret (TX.then_ret (TX.in_ret (TX.then_ret ?_)))))))
    exact ret_tmp Tryz.results39 rfl (fun w1 hw => ⟨by rw [decide_eq_false (fun h => by rw [h, hx23] at hx19; exact q25 (Option.some.inj hx19).symm)], hw.bel⟩)
   ·have q25 := of_decide_eq_false h25
    have he2 : ∀ j, j < i + 1 → l[j]? = m[j]? := fun j hj => by
     rcases Nat.lt_or_ge j i with h9 | h9
     ·exact he j h9
     ·obtain rfl : j = i := by omega
      rw [hx19, hx23, Decidable.not_not.1 q25]
    refine TQ.fin ?_
    refine TX.then_ (TC.condF rfl (TC.skip_ (TX.in_normal (TX.then_ (TC.region ?_)))))
    refine TL.mv ?_
    refine TL.val rfl rfl rfl (gives_bin rfl rfl rfl (fun w => bin_add_ (r := ((i + 1 : Nat) : Int)) (by simp only [IntKind.wrap_i64]; omega) w)) ?_
    refine TL.as_ ?_
    refine TL.end_ ?_
    exact TX.round (⟨i + 1, by omega, he2⟩) (by show l.length - (i + 1) < l.length - i; omega) ⟨rfl, rfl, rfl, trivial⟩ (fun w1 hw => hw)
  ·have q14 := of_decide_eq_false h14
   refine TL.end_ (TX.then_ (TC.condF rfl (TC.exit_ (TX.then_exit (TX.then_exit (TX.in_same (TX.then_ (TC.seq_ (TC.region ?_)))))))))
   refine TL.as_ ?_
   refine TL.end_ (TX.then_ (TC.ret_ ?_))
   exact ret_tmp Tryz.results39 rfl (fun w1 hw => ⟨by rw [decide_eq_true (List.ext_getElem? fun j => if h9 : j < i then he j h9 else by rw [List.getElem?_eq_none (by omega), List.getElem?_eq_none (by omega)])], hw.bel⟩)
structure MKey (P : Program) (k : TypeId) {κ : Type} (enc : κ → Value) (Ok : κ → Prop) : Prop where
  keyed : Maps.Keyed P k
  lit : ∀ a, Ok a → ∃ l, keyOf P k (enc a) = some l
  inj : ∀ a b, enc a = enc b → a = b
def MapG {κ : Type} (enc : κ → Value) (Ok : κ → Prop) (o : Obj) (f : κ → Option Value) : Prop :=
  ∃ (es : Array MapEntry) (clock : Nat), o = .map es clock ∧ (∀ e ∈ es.toList, ∃ a, Ok a ∧ e.key = enc a) ∧ (es.toList.map (·.key)).Nodup ∧ ∀ a v, f a = some v ↔ ∃ e ∈ es.toList, e.key = enc a ∧ e.val = v
section
variable {P : Program} {t k e : TypeId} {κ : Type} {enc : κ → Value} {Ok : κ → Prop} {o : Obj} {g : Nat} {f : κ → Option Value} {w : World}
theorem mapG_new (enc : κ → Value) (Ok : κ → Prop) : MapG enc Ok (.map #[] 0) (fun _ => none) :=
  ⟨#[], 0, rfl, fun e h => absurd h List.not_mem_nil, List.nodup_nil, fun a v => ⟨fun h => by (cases h), fun ⟨e, h, _⟩ => absurd h List.not_mem_nil⟩⟩
theorem MapG.find {es : Array MapEntry} {clock : Nat} (h : MapG enc Ok (.map es clock) f) (K : MKey P k enc Ok) {a : κ} (ha : Ok a) (w : World) :
    ((Instr.findKey k (enc a) es.toList).run P w = .ok none w ∧ f a = none) ∨ ∃ j e, (Instr.findKey k (enc a) es.toList).run P w = .ok (some (j, e.val)) w ∧ es[j]? = some e ∧ e.key = enc a ∧ f a = some e.val := by
  obtain ⟨es', clock', he, hk, hnd, hf⟩ := h
  cases he
  obtain ⟨l, hl⟩ := K.lit a ha
  rcases K.keyed.find w hl es.toList (fun e he => by obtain ⟨b, hb, e1⟩ := hk e he; rw [e1]; exact K.lit b hb) with ⟨h1, h2⟩ | ⟨j, e, h1, h2, h3⟩
  · refine .inl ⟨h1, ?_⟩
    cases hfa : f a with
    | none => rfl
    | some v =>
      obtain ⟨e, he, e1, _⟩ := (hf a v).1 hfa
      exact absurd e1 (h2 e he)
  · refine .inr ⟨j, e, h1, by simpa using h2, h3, (hf a e.val).2 ⟨e, List.mem_of_getElem? h2, h3, rfl⟩⟩
theorem MapG.look (h : MapG enc Ok o f) (K : MKey P k enc Ok) (ht : P.underlying t = some (.map k e)) {z : Value} (hz : ∀ w : World, (zeroValue e).run P w = .ok z w) (hb : w.heap[g]? = some o) {a : κ} (ha : Ok a) (co : Bool) :
    (Instr.lookup t (.map (some g)) (enc a) co).run P w = .ok (if co then .tuple #[(f a).getD z, .bool (f a).isSome] else (f a).getD z) w := by
  obtain ⟨es, clock, he, _⟩ := id h
  subst he
  obtain ⟨l, hl⟩ := K.lit a ha
  have hck := K.keyed.check w es.isEmpty hl
  have hgo : (getObj g).run P w = .ok (.map es clock) w := by simp [getObj, Sem.run, hb]
  unfold Instr.lookup
  rcases h.find K ha w with ⟨h1, h2⟩ | ⟨j, e', h1, h2, h3, h4⟩
  · simp [run_underlying ht, hgo, hck, h1, hz, h2]
  · simp [run_underlying ht, hgo, hck, h1, h4]
theorem MapG.put (h : MapG enc Ok o f) (K : MKey P k enc Ok) (ht : P.underlying t = some (.map k e)) (hb : w.heap[g]? = some o) {a : κ} (ha : Ok a) (v : Value) [DecidableEq κ] :
    ∃ o' w', (Instr.mapUpdate t (.map (some g)) (enc a) v).run P w = .ok () w' ∧ w'.heap[g]? = some o' ∧ MapG enc Ok o' (fun x => if x = a then some v else f x) ∧ w.grownBy w' (some g) := by
  obtain ⟨es, clock, he, hk, hnd, hf⟩ := id h
  subst he
  obtain ⟨l, hl⟩ := K.lit a ha
  have hck := K.keyed.check w false hl
  have hst := K.keyed.stays w hl
  have hgo : (getObj g).run P w = .ok (.map es clock) w := by simp [getObj, Sem.run, hb]
  have hlt : g < w.heap.size := (Array.getElem?_eq_some_iff.1 hb).1
  have hso : ∀ ob : Obj, (setObj g ob).run P w = .ok () (w.putObj g ob) := fun ob => by simp [setObj, Sem.run, hb, World.putObj]
  rcases h.find K ha w with ⟨h1, h2⟩ | ⟨j, e', h1, h2, h3, h4⟩
  · refine ⟨.map (es.push ⟨enc a, v, clock⟩) (clock + 1), w.putObj g (.map (es.push ⟨enc a, v, clock⟩) (clock + 1)), ?_, ?_, ⟨_, _, rfl, ?_, ?_, ?_⟩, grownBy_putObj' w g _⟩
    · unfold Instr.mapUpdate
      simp [run_underlying ht, hgo, hck, h1, hso]
    · simp [World.putObj, hlt]
    · intro e1 he1
      simp only [Array.toList_push, List.mem_append, List.mem_singleton] at he1
      rcases he1 with he1 | rfl
      · exact hk e1 he1
      · exact ⟨a, ha, rfl⟩
    · simp only [Array.toList_push, List.map_append, List.map_cons, List.map_nil]
      refine List.nodup_append.2 ⟨hnd, List.pairwise_singleton _ _, fun x hx y hy e1 => ?_⟩
      rw [List.mem_singleton] at hy
      obtain ⟨e2, he2, e3⟩ := List.mem_map.1 hx
      have := (hf a e2.val).2 ⟨e2, he2, by rw [e3, e1, hy], rfl⟩
      rw [h2] at this
      cases this
    · intro x u
      simp only [Array.toList_push, List.mem_append, List.mem_singleton]
      show (if x = a then some v else f x) = some u ↔ _
      by_cases e1 : x = a
      · subst e1
        rw [if_pos rfl]
        constructor
        · intro hu
          cases hu
          exact ⟨_, .inr rfl, rfl, rfl⟩
        · rintro ⟨e2, he2 | rfl, e3, e4⟩
          · have := (hf x e2.val).2 ⟨e2, he2, e3, rfl⟩
            rw [h2] at this
            cases this
          · rw [← e4]
      · rw [if_neg e1, hf]
        constructor
        · rintro ⟨e2, he2, e3⟩
          exact ⟨e2, .inl he2, e3⟩
        · rintro ⟨e2, he2 | rfl, e3⟩
          · exact ⟨e2, he2, e3⟩
          · exact absurd (K.inj _ _ e3.1).symm e1
  · have hjl : j < es.size := (Array.getElem?_eq_some_iff.1 h2).1
    refine ⟨.map (es.modify j fun e => { key := enc a, val := v, born := e.born }) clock, w.putObj g (.map (es.modify j fun e => { key := enc a, val := v, born := e.born }) clock), ?_, ?_, ⟨_, _, rfl, ?_, ?_, ?_⟩, grownBy_putObj' w g _⟩
    · unfold Instr.mapUpdate
      simp [run_underlying ht, hgo, hck, h1, h2, h3, hst, hso]
    · simp [World.putObj, hlt]
    all_goals
      have hm : (es.modify j fun e => { key := enc a, val := v, born := e.born }).toList = es.toList.set j ⟨enc a, v, e'.born⟩ := by
        refine List.ext_getElem? fun i => ?_
        rw [Array.getElem?_toList, Array.getElem?_modify, List.getElem?_set]
        by_cases e1 : j = i
        · subst e1
          rw [if_pos rfl, if_pos rfl, h2, if_pos (by simpa using hjl)]
          rfl
        · rw [if_neg e1, if_neg e1, Array.getElem?_toList]
      rw [hm]
    · intro e1 he1
      rcases List.mem_or_eq_of_mem_set he1 with h5 | rfl
      · exact hk e1 h5
      · exact ⟨a, ha, rfl⟩
    · have : (es.toList.set j ⟨enc a, v, e'.born⟩).map (·.key) = es.toList.map (·.key) := by
        rw [List.map_set]
        refine List.ext_getElem? fun i => ?_
        rw [List.getElem?_set]
        by_cases e1 : j = i
        · subst e1
          rw [if_pos rfl, if_pos (by simpa using hjl), List.getElem?_map, Array.getElem?_toList, h2]
          simp [h3]
        · rw [if_neg e1]
      rw [this]
      exact hnd
    · have hdist : ∀ i e1, es.toList[i]? = some e1 → e1.key = enc a → i = j := fun i e1 hi hk1 => by
        have hi' : i < (es.toList.map (·.key)).length := by rw [List.length_map]; exact (List.getElem?_eq_some_iff.1 hi).1
        refine (List.getElem?_inj hi' hnd).1 ?_
        rw [List.getElem?_map, List.getElem?_map, hi, Array.getElem?_toList, h2]
        simp [hk1, h3]
      intro x u
      show (if x = a then some v else f x) = some u ↔ _
      by_cases e1 : x = a
      · subst e1
        rw [if_pos rfl]
        constructor
        · intro hu
          cases hu
          exact ⟨⟨enc x, v, e'.born⟩, List.mem_set (by rw [Array.length_toList]; exact hjl) _, rfl, rfl⟩
        · rintro ⟨e2, he2, e3, e4⟩
          obtain ⟨i, hi⟩ := List.getElem?_of_mem he2
          rw [List.getElem?_set] at hi
          by_cases e5 : j = i
          · rw [if_pos e5, if_pos (by rw [Array.length_toList]; exact hjl)] at hi
            cases hi
            rw [← e4]
          · rw [if_neg e5] at hi
            exact absurd (hdist i e2 hi e3).symm e5
      · rw [if_neg e1, hf]
        constructor
        · rintro ⟨e2, he2, e3, e4⟩
          obtain ⟨i, hi⟩ := List.getElem?_of_mem he2
          have hij : j ≠ i := fun hh => by
            subst hh
            rw [Array.getElem?_toList, h2] at hi
            cases hi
            rw [h3] at e3
            exact e1 (K.inj _ _ e3).symm
          exact ⟨e2, List.mem_of_getElem? (i := i) (by rw [List.getElem?_set, if_neg hij]; exact hi), e3, e4⟩
        · rintro ⟨e2, he2, e3, e4⟩
          rcases List.mem_or_eq_of_mem_set he2 with h5 | rfl
          · exact ⟨e2, h5, e3, e4⟩
          · exact absurd (K.inj _ _ e3).symm e1
end
section
variable {P : Program} {N : Fr} {Q : Exit → Act → World → Prop} {E : Env} {w0 : Base} {L : List Pc} {ops : Array Oper} {l : List Oper} {o : Oper} {κ : Type} {enc : κ → Value} {Ok : κ → Prop} {t k e : TypeId}
theorem gives_lookG {x y : Operand} {g i : Nat} {ob : Obj} {f : κ → Option Value} {a : κ} {z : Value} (ho : o.op = .lookup t x y false) (hx : ev E x = some (.map (some g))) (hy : ev E y = some (enc a)) (K : MKey P k enc Ok) (ht : P.underlying t = some (.map k e)) (hz : ∀ w : World, (zeroValue e).run P w = .ok z w) (hk : L[i]? = some (.oth g ob)) (hm : MapG enc Ok ob f) (ha : Ok a) {v : Value} (hv : (f a).getD z = v) :
    Gives P N o E (Pm w0 L) v := fun ac w hac hw => by
  unfold execOp; rw [ho]
  subst hv
  simp [hac.eval hx, hac.eval hy, hm.look K ht hz (hw.at_ hk).1 ha false]
end
def MapR {κ : Type} (enc : κ → Value) (Ok : κ → Prop) (o : Obj) (f : κ → Option Value) : Prop :=
 ∃ (es : Array MapEntry) (clock : Nat), o = .map es clock ∧ MapG enc Ok o f ∧ (es.toList.map (·.born)).Nodup ∧ ∀ e ∈ es.toList, e.born < clock
def Stamped {κ : Type} (enc : κ → Value) (o : Obj) (a : κ) (s : Nat) : Prop := ∃ (es : Array MapEntry) (clock : Nat), o = .map es clock ∧ ∃ (j : Nat) (e : MapEntry), es[j]? = some e ∧ e.key = enc a ∧ e.born = s
section
variable {P : Program} {t k e : TypeId} {κ : Type} {enc : κ → Value} {Ok : κ → Prop} {o : Obj} {g : Nat} {f : κ → Option Value} {w : World}
theorem mapR_new (enc : κ → Value) (Ok : κ → Prop) : MapR enc Ok (.map #[] 0) (fun _ => none) := ⟨#[], 0, rfl, mapG_new enc Ok, List.nodup_nil, fun e h => absurd h List.not_mem_nil⟩
theorem MapR.toG (h : MapR enc Ok o f) : MapG enc Ok o f := by obtain ⟨_, _, _, h1, _⟩ := h; exact h1
theorem modify_list (es : Array MapEntry) (j : Nat) (F : MapEntry → MapEntry) {e : MapEntry} (h : es[j]? = some e) : (es.modify j F).toList = es.toList.set j (F e) := by
 have hjl := (Array.getElem?_eq_some_iff.1 h).1
 refine List.ext_getElem? fun i => ?_
 rw [Array.getElem?_toList, Array.getElem?_modify, List.getElem?_set]
 by_cases e1 : j = i
 ·subst e1
  rw [if_pos rfl, if_pos rfl, h, if_pos (by simpa using hjl)]
  rfl
 ·rw [if_neg e1, if_neg e1, Array.getElem?_toList]
theorem born_push {es : Array MapEntry} {clock : Nat} (h1 : (es.toList.map (·.born)).Nodup) (h2 : ∀ e ∈ es.toList, e.born < clock) (x : Value) (v : Value) :
  (((es.push ⟨x, v, clock⟩).toList.map (·.born)).Nodup) ∧ ∀ e ∈ (es.push ⟨x, v, clock⟩).toList, e.born < clock + 1 := by
 constructor
 ·simp only [Array.toList_push, List.map_append, List.map_cons, List.map_nil]
  refine List.nodup_append.2 ⟨h1, List.pairwise_singleton _ _, fun a ha b hb e1 => ?_⟩
  rw [List.mem_singleton] at hb
  obtain ⟨e2, he2, e3⟩ := List.mem_map.1 ha
  have := h2 e2 he2
  omega
 ·intro e he
  simp only [Array.toList_push, List.mem_append, List.mem_singleton] at he
  rcases he with he | he
  ·have := h2 e he; omega
  ·rw [he]; exact Nat.lt_succ_self _
theorem born_modify {es : Array MapEntry} {clock j : Nat} {e : MapEntry} (h1 : (es.toList.map (·.born)).Nodup) (h2 : ∀ e ∈ es.toList, e.born < clock) (hj : es[j]? = some e) (F : MapEntry → MapEntry) (hF : (F e).born = e.born) :
  (((es.modify j F).toList.map (·.born)).Nodup) ∧ ∀ e ∈ (es.modify j F).toList, e.born < clock := by
 rw [modify_list es j F hj]
 constructor
 ·have : (es.toList.set j (F e)).map (·.born) = es.toList.map (·.born) := by
   rw [List.map_set]
   refine List.ext_getElem? fun i => ?_
   rw [List.getElem?_set]
   by_cases e1 : j = i
   ·subst e1
    rw [if_pos rfl, if_pos (by rw [List.length_map, Array.length_toList]; exact (Array.getElem?_eq_some_iff.1 hj).1), List.getElem?_map, Array.getElem?_toList, hj]
    simp [hF]
   ·rw [if_neg e1]
  rw [this]; exact h1
 ·intro x hx
  rcases List.mem_or_eq_of_mem_set hx with h3 | h3
  ·exact h2 x h3
  ·rw [h3, hF]; exact h2 e (List.mem_of_getElem? (i := j) (by rw [Array.getElem?_toList]; exact hj))
theorem MapR.put (h : MapR enc Ok o f) (K : MKey P k enc Ok) (ht : P.underlying t = some (.map k e)) (hb : w.heap[g]? = some o) {a : κ} (ha : Ok a) (v : Value) [DecidableEq κ] :
  ∃ o' w', (Instr.mapUpdate t (.map (some g)) (enc a) v).run P w = .ok () w' ∧ w' = w.putObj g o' ∧ MapR enc Ok o' (fun x => if x = a then some v else f x) ∧
   ∃ (es : Array MapEntry) (clock : Nat), o = .map es clock ∧ ((o' = .map (es.push ⟨enc a, v, clock⟩) (clock + 1) ∧ f a = none ∧ (Instr.findKey k (enc a) es.toList).run P w = .ok none w) ∨ ∃ j e, es[j]? = some e ∧ e.key = enc a ∧ f a = some e.val ∧ o' = .map (es.modify j fun e => { key := enc a, val := v, born := e.born }) clock ∧ (Instr.findKey k (enc a) es.toList).run P w = .ok (some (j, e.val)) w) := by
 obtain ⟨es, clock, he, hG, hn, hlt⟩ := id h
 obtain ⟨o1, w1, hrun, hob, hG1, _⟩ := hG.put K ht hb ha v
 subst he
 obtain ⟨l, hl⟩ := K.lit a ha
 have hck := K.keyed.check w false hl
 have hst := K.keyed.stays w hl
 have hgo : (getObj g).run P w = .ok (.map es clock) w := by simp [getObj, Sem.run, hb]
 have hgl : g < w.heap.size := (Array.getElem?_eq_some_iff.1 hb).1
 have hso : ∀ ob : Obj, (setObj g ob).run P w = .ok () (w.putObj g ob) := fun ob => by simp [setObj, Sem.run, hb, World.putObj]
 have hput : ∀ ob : Obj, (w.putObj g ob).heap[g]? = some ob := fun ob => by simp [World.putObj, hgl]
 rcases hG.find K ha w with ⟨h1, h2⟩ | ⟨j, e', h1, h2, h3, h4⟩
 ·have hr : (Instr.mapUpdate t (.map (some g)) (enc a) v).run P w = .ok () (w.putObj g (.map (es.push ⟨enc a, v, clock⟩) (clock + 1))) := by
   unfold Instr.mapUpdate
   simp [run_underlying ht, hgo, hck, h1, hso]
  rw [hr] at hrun
  cases hrun
  rw [hput] at hob
  cases hob
  exact ⟨_, _, hr, rfl, ⟨_, _, rfl, hG1, (born_push hn hlt _ _).1, (born_push hn hlt _ _).2⟩, es, clock, rfl, .inl ⟨rfl, h2, h1⟩⟩
 ·have hr : (Instr.mapUpdate t (.map (some g)) (enc a) v).run P w = .ok () (w.putObj g (.map (es.modify j fun e => { key := enc a, val := v, born := e.born }) clock)) := by
   unfold Instr.mapUpdate
   simp [run_underlying ht, hgo, hck, h1, h2, h3, hst, hso]
  rw [hr] at hrun
  cases hrun
  rw [hput] at hob
  cases hob
  exact ⟨_, _, hr, rfl, ⟨_, _, rfl, hG1, (born_modify hn hlt h2 _ rfl).1, (born_modify hn hlt h2 _ rfl).2⟩, es, clock, rfl, .inr ⟨j, e', h2, h3, h4, rfl, h1⟩⟩
theorem modify_eq (es : Array MapEntry) (j : Nat) (F G : MapEntry → MapEntry) {e : MapEntry} (h : es[j]? = some e) (hE : F e = G e) : es.modify j F = es.modify j G := by
 apply Array.toList_inj.1
 rw [modify_list es j F h, modify_list es j G h, hE]
theorem MapR.entry (h : MapR enc Ok o f) (K : MKey P k enc Ok) (ht : P.underlying t = some (.map k e)) {z : Value} (hz : ∀ w : World, (zeroValue e).run P w = .ok z w) (hb : w.heap[g]? = some o) {a : κ} (ha : Ok a) [DecidableEq κ] :
  ∃ o' s, (Instr.mapEntry t (.map (some g)) (enc a)).run P w = .ok (.tuple #[(f a).getD z, .int .i64 ((s : Nat) : Int)]) (w.putObj g o') ∧ MapR enc Ok o' (fun x => if x = a then some ((f a).getD z) else f x) ∧ Stamped enc o' a s := by
 obtain ⟨o', w', _, _, hR, es, clock, he, hc⟩ := h.put K ht hb ha ((f a).getD z)
 subst he
 obtain ⟨l, hl⟩ := K.lit a ha
 have hck := K.keyed.check w false hl
 have hst := K.keyed.stays w hl
 have hgo : (getObj g).run P w = .ok (.map es clock) w := by simp [getObj, Sem.run, hb]
 have hso : ∀ ob : Obj, (setObj g ob).run P w = .ok () (w.putObj g ob) := fun ob => by simp [setObj, Sem.run, hb, World.putObj]
 rcases hc with ⟨h1, h2, h3⟩ | ⟨j, e', h1, h2, h3, h4, h5⟩
 ·subst h1
  refine ⟨_, clock, ?_, hR, _, _, rfl, es.size, ⟨enc a, (f a).getD z, clock⟩, by simp, rfl, rfl⟩
  unfold Instr.mapEntry
  simp [run_underlying ht, hgo, hck, h3, hz, hso, h2]
  rfl
 ·subst h4
  have hm : (es.modify j fun e => { e with key := enc a }) = es.modify j fun e => { key := enc a, val := (f a).getD z, born := e.born } := modify_eq es j _ _ h1 (by rw [h3]; rfl)
  refine ⟨_, e'.born, ?_, hR, _, _, rfl, j, ⟨enc a, (f a).getD z, e'.born⟩, by rw [Array.getElem?_modify, if_pos rfl, h1]; rfl, rfl, rfl⟩
  unfold Instr.mapEntry
  simp [run_underlying ht, hgo, hck, h5, h1, h2, hst, hso, hm]
  rw [h3]
  exact ⟨rfl, rfl⟩
theorem MapR.store (h : MapR enc Ok o f) (K : MKey P k enc Ok) (ht : P.underlying t = some (.map k e)) (hb : w.heap[g]? = some o) {a : κ} (ha : Ok a) {s : Nat} (hs : Stamped enc o a s) (v : Value) [DecidableEq κ] :
  ∃ o', (Instr.entryStore t (.map (some g)) (.int .i64 ((s : Nat) : Int)) v).run P w = .ok () (w.putObj g o') ∧ MapR enc Ok o' (fun x => if x = a then some v else f x) := by
 obtain ⟨o', w', _, _, hR, es, clock, he, hc⟩ := h.put K ht hb ha v
 obtain ⟨es1, clock1, he1, hG, hn, hlt⟩ := h
 rw [he] at he1
 cases he1
 subst he
 obtain ⟨es2, clock2, he2, q, e2, hq, hqk, hqs⟩ := hs
 cases he2
 have hgo : (getObj g).run P w = .ok (.map es clock) w := by simp [getObj, Sem.run, hb]
 have hso : ∀ ob : Obj, (setObj g ob).run P w = .ok () (w.putObj g ob) := fun ob => by simp [setObj, Sem.run, hb, World.putObj]
 rcases hc with ⟨h1, h2, h3⟩ | ⟨j, e', h1, h2, h3, h4, h5⟩
 ·obtain ⟨es3, clock3, he3, hk3, hnd3, hf3⟩ := hG
  cases he3
  have := (hf3 a e2.val).2 ⟨e2, List.mem_of_getElem? (i := q) (by rw [Array.getElem?_toList]; exact hq), hqk, rfl⟩
  rw [h2] at this
  cases this
 ·have hjq : j = q := by
   obtain ⟨es3, clock3, he3, hk3, hnd3, hf3⟩ := hG
   cases he3
   have hj' : j < (es.toList.map (·.key)).length := by rw [List.length_map, Array.length_toList]; exact (Array.getElem?_eq_some_iff.1 h1).1
   refine (List.getElem?_inj hj' hnd3).1 ?_
   rw [List.getElem?_map, List.getElem?_map, Array.getElem?_toList, Array.getElem?_toList, h1, hq]
   simp [h2, hqk]
  subst hjq
  rw [h1] at hq
  cases hq
  have hfi : es.findIdx? (fun e => (e.born : Int) == (s : Int)) = some j := by
   rw [Array.findIdx?_eq_some_iff_getElem]
   obtain ⟨hjl, hje⟩ := Array.getElem?_eq_some_iff.1 h1
   refine ⟨hjl, by rw [hje, hqs]; simp, fun i hi => ?_⟩
   have hil : i < es.size := by omega
   simp only [beq_iff_eq]
   intro e9
   have e9' : es[i].born = s := by omega
   have hi' : i < (es.toList.map (·.born)).length := by simpa using hil
   have : i = j := by
    refine (List.getElem?_inj hi' hn).1 ?_
    rw [List.getElem?_map, List.getElem?_map, Array.getElem?_toList, Array.getElem?_toList, h1, Array.getElem?_eq_getElem hil]
    simp [e9', hqs]
   omega
  refine ⟨o', ?_, hR⟩
  subst h4
  have hm : (es.modify j fun e => { e with val := v }) = es.modify j fun e => { key := enc a, val := v, born := e.born } := modify_eq es j _ _ h1 (by rw [h2])
  unfold Instr.entryStore
  simp [hgo, asInt, asIntOf, hfi, hso, hm]
theorem nodup_lenN : ∀ {p F : List Nat}, p.Nodup → (∀ f ∈ p, f ∈ F) → p.length ≤ F.length
 | [], _, _, _ => Nat.zero_le _
 | a :: p, F, h, hs => by
  obtain ⟨h1, h2⟩ := List.nodup_cons.1 h
  have := nodup_lenN (F := F.erase a) h2 fun f hf => (List.mem_erase_of_ne (fun e => h1 (by rw [← e]; exact hf))).2 (hs f (List.mem_cons_of_mem _ hf))
  rw [List.length_erase_of_mem (hs a List.mem_cons_self)] at this
  have h3 : 0 < F.length := List.length_pos_of_mem (hs a List.mem_cons_self)
  rw [List.length_cons]
  omega
/-! ### ranging -/
def ItR {κ : Type} (enc : κ → Value) (Ok : κ → Prop) (g : Nat) (ob oi : Obj) (f : κ → Option Value) (n : Nat) (ds : List (κ × Value)) : Prop :=
 ∃ (es : Array MapEntry) (clock since : Nat) (seen : Array Nat) (c0 : Nat) (des : List MapEntry), ob = .map es clock ∧ oi = .mapIter (some g) since seen c0 ∧ MapR enc Ok ob f ∧ es.size = n ∧ (∀ x ∈ es.toList, x.born < since) ∧ since ≤ c0 ∧ since ≤ clock ∧
  seen.toList = des.map (·.born) ∧ (∀ x ∈ des, x ∈ es.toList) ∧ seen.toList.Nodup ∧ des.map (fun x => (x.key, x.val)) = ds.map (fun p => (enc p.1, p.2)) ∧ (∀ p ∈ ds, Ok p.1 ∧ f p.1 = some p.2) ∧ (seen.size = 0 ∨ c0 = clock)
variable {ob oi : Obj} {n : Nat} {ds : List (κ × Value)}
theorem ItR.start {es : Array MapEntry} {clock : Nat} (h : MapR enc Ok (.map es clock) f) : ItR enc Ok g (.map es clock) (.mapIter (some g) clock #[] clock) f es.size [] := by
 refine ⟨es, clock, clock, #[], clock, [], rfl, rfl, h, rfl, ?_, Nat.le_refl _, Nat.le_refl _, rfl, fun x hx => absurd hx List.not_mem_nil, List.nodup_nil, rfl, fun p hp => absurd hp List.not_mem_nil, .inl rfl⟩
 obtain ⟨es', clock', he, _, _, hlt⟩ := h
 cases he
 exact hlt
theorem ItR.map (h : ItR enc Ok g ob oi f n ds) : MapR enc Ok ob f := by obtain ⟨_, _, _, _, _, _, _, _, h1, _⟩ := h; exact h1
theorem ItR.ok (h : ItR enc Ok g ob oi f n ds) : ∀ p ∈ ds, Ok p.1 ∧ f p.1 = some p.2 := by obtain ⟨_, _, _, _, _, _, _, _, _, _, _, _, _, _, _, _, _, h1, _⟩ := h; exact h1
theorem ItR.keys {k : TypeId} (h : ItR enc Ok g ob oi f n ds) (K : MKey P k enc Ok) : (ds.map (·.1)).Nodup := by
 obtain ⟨es, clock, since, seen, c0, des, he, hi, hm, hn, hlt, h1, h2, h3, h4, h5, h6, h7, h8⟩ := h
 obtain ⟨es', clock', he', hG, hnb, _⟩ := hm
 subst he
 cases he'
 obtain ⟨es3, clock3, he3, hk3, hnd3, hf3⟩ := hG
 cases he3
 have hdes : (des.map (·.key)).Nodup := by
  have hnd : des.Pairwise (fun x y => x.born ≠ y.born) := by rw [h3] at h5; exact List.pairwise_map.1 h5
  have : des.Pairwise (fun x y => x.key ≠ y.key) := by
   refine hnd.imp_of_mem ?_
   intro x y hx hy hxy hk
   obtain ⟨i, hi⟩ := List.getElem?_of_mem (h4 x hx)
   obtain ⟨j, hj⟩ := List.getElem?_of_mem (h4 y hy)
   have hi' : i < (es.toList.map (·.key)).length := by rw [List.length_map]; exact (List.getElem?_eq_some_iff.1 hi).1
   have : i = j := (List.getElem?_inj hi' hnd3).1 (by rw [List.getElem?_map, List.getElem?_map, hi, hj]; simp [hk])
   subst this
   rw [hi] at hj
   cases hj
   exact hxy rfl
  exact List.pairwise_map.2 this
 have he : des.map (·.key) = ds.map (fun p => enc p.1) := by
  have := congrArg (List.map Prod.fst) h6
  simpa [List.map_map, Function.comp_def] using this
 rw [he] at hdes
 have h9 := List.pairwise_map.1 hdes
 exact List.pairwise_map.2 (h9.imp fun hne hh => hne (by rw [hh]))
theorem ItR.next {k : TypeId} (K : MKey P k enc Ok) {it : Nat} (h : ItR enc Ok g ob oi f n ds) (hob : w.heap[g]? = some ob) (hoi : w.heap[it]? = some oi) (ty : TypeId) :
  ((Instr.next (.pointer (some ⟨it, 0, none⟩)) false ty).run P w = .ok (.tuple #[.bool false]) w ∧ ∀ a v, f a = some v → (a, v) ∈ ds) ∨
  ∃ a v oi' w', (Instr.next (.pointer (some ⟨it, 0, none⟩)) false ty).run P w = .ok (.tuple #[.bool true, enc a, v]) w' ∧ w.grownBy w' (some it) ∧ w'.heap[it]? = some oi' ∧ Ok a ∧ f a = some v ∧ a ∉ ds.map (·.1) ∧ ItR enc Ok g ob oi' f n (ds ++ [(a, v)]) ∧ ds.length < n := by
 obtain ⟨es, clock, since, seen, c0, des, he, hi, hm, hn, hlt, h1, h2, h3, h4, h5, h6, h7, h8⟩ := h
 have hm0 := hm
 obtain ⟨es', clock', he', hG, hnb, hcl⟩ := hm
 subst he
 cases he'
 have hG0 := hG
 obtain ⟨es3, clock3, he3, hk3, hnd3, hf3⟩ := hG
 cases he3
 subst hi
 have dec : ∀ x ∈ es.toList, ∃ a, Ok a ∧ x.key = enc a ∧ f a = some x.val := fun x hx => by
  obtain ⟨a, ha, hk⟩ := hk3 x hx
  exact ⟨a, ha, hk, (hf3 a x.val).2 ⟨x, hx, hk, rfl⟩⟩
 have hlen : des.length = ds.length := by have := congrArg List.length h6; simpa using this
 have hseen : ∀ x ∈ es.toList, seen.contains x.born = true → x ∈ des := fun x hx hc => by
  have hb : x.born ∈ seen.toList := by simpa using hc
  rw [h3] at hb
  obtain ⟨y, hy, hyb⟩ := List.mem_map.1 hb
  obtain ⟨i, hi⟩ := List.getElem?_of_mem hx
  obtain ⟨j, hj⟩ := List.getElem?_of_mem (h4 y hy)
  have hi' : i < (es.toList.map (·.born)).length := by rw [List.length_map]; exact (List.getElem?_eq_some_iff.1 hi).1
  have : i = j := (List.getElem?_inj hi' hnb).1 (by rw [List.getElem?_map, List.getElem?_map, hi, hj]; simp [hyb])
  subst this
  rw [hi] at hj
  cases hj
  exact hy
 rcases run_next_at (P := P) w ty it g since c0 seen es clock hoi hob hlt h1 with ⟨e0, hr⟩ | ⟨x, hx, w1, hw1, hr⟩
 ·refine .inl ⟨hr, fun a v hav => ?_⟩
  obtain ⟨x, hx, hxk, hxv⟩ := (hf3 a v).1 hav
  have hc : seen.contains x.born = true := by
   cases hc : seen.contains x.born with
   | true => rfl
   | false =>
    have : x ∈ (leftOf es seen) := by unfold leftOf; rw [Array.mem_filter]; exact ⟨by simpa using hx, by rw [hc]; rfl⟩
    have := Array.size_pos_of_mem this
    omega
  have hxd := hseen x hx hc
  have : (x.key, x.val) ∈ des.map (fun x => (x.key, x.val)) := List.mem_map.2 ⟨x, hxd, rfl⟩
  rw [h6] at this
  obtain ⟨p, hp, hpe⟩ := List.mem_map.1 this
  have hp7 := h7 p hp
  have e1 : enc p.1 = enc a := by have := congrArg Prod.fst hpe; rw [← hxk]; exact this
  have e2 : p.2 = v := by have := congrArg Prod.snd hpe; rw [← hxv]; exact this
  have e3 := K.inj _ _ e1
  rw [← e3, ← e2]
  exact hp
 ·have hx2 : x ∈ es.toList ∧ seen.contains x.born = false := by
   have := Array.mem_toList_iff.1 hx
   unfold leftOf at this
   rw [Array.mem_filter] at this
   exact ⟨by simpa using this.1, by simpa using this.2⟩
  obtain ⟨a, ha, hak, hav⟩ := dec x hx2.1
  have hnb : x.born ∉ des.map (·.born) := by
   rw [← h3]
   intro hm
   have : seen.contains x.born = true := by simpa using hm
   rw [hx2.2] at this
   cases this
  have hw1h : w1.heap = w.heap := by rcases hw1 with rfl | rfl <;> rfl
  have hitl : it < w.heap.size := (Array.getElem?_eq_some_iff.1 hoi).1
  have hseen2 : (seen.push x.born).toList = (des ++ [x]).map (·.born) := by rw [Array.toList_push, List.map_append, h3]; rfl
  have hnd2 : (seen.push x.born).toList.Nodup := by
   rw [Array.toList_push]
   refine List.nodup_append.2 ⟨h5, List.pairwise_singleton _ _, fun p hp q hq e => ?_⟩
   rw [List.mem_singleton] at hq
   rw [h3] at hp
   exact hnb (by rw [← hq, ← e]; exact hp)
  have hmem2 : ∀ y ∈ des ++ [x], y ∈ es.toList := fun y hy => by
   rcases List.mem_append.1 hy with h9 | h9
   ·exact h4 y h9
   ·rw [List.mem_singleton.1 h9]; exact hx2.1
  refine .inr ⟨a, x.val, .mapIter (some g) since (seen.push x.born) clock, _, by rw [← hak]; exact hr, ?_, ?_, ha, hav, ?_, ?_, ?_⟩
  ·refine ⟨by rcases hw1 with rfl | rfl <;> rfl, by rcases hw1 with rfl | rfl <;> rfl, by rcases hw1 with rfl | rfl <;> rfl, by simp [ChangeMaps.setBlock, hw1h], fun i hi hne => ?_⟩
   have : it ≠ i := fun e => hne (by rw [e])
   simp [ChangeMaps.setBlock, hw1h, Array.getElem?_setIfInBounds, this]
  ·simp [ChangeMaps.setBlock, hw1h, hitl]
  ·intro hm
   obtain ⟨p, hp, hpa⟩ := List.mem_map.1 hm
   have : (enc p.1, p.2) ∈ des.map (fun x => (x.key, x.val)) := by rw [h6]; exact List.mem_map.2 ⟨p, hp, rfl⟩
   obtain ⟨y, hy, hye⟩ := List.mem_map.1 this
   have hyk : y.key = x.key := by have := congrArg Prod.fst hye; rw [hak, ← hpa]; exact this
   obtain ⟨i, hi⟩ := List.getElem?_of_mem hx2.1
   obtain ⟨j, hj⟩ := List.getElem?_of_mem (h4 y hy)
   have hi' : i < (es.toList.map (·.key)).length := by rw [List.length_map]; exact (List.getElem?_eq_some_iff.1 hi).1
   have e9 : i = j := (List.getElem?_inj hi' hnd3).1 (by rw [List.getElem?_map, List.getElem?_map, hi, hj]; simp [hyk])
   subst e9
   rw [hi] at hj
   cases hj
   exact hnb (List.mem_map.2 ⟨x, hy, rfl⟩)
  ·refine ⟨es, clock, since, seen.push x.born, clock, des ++ [x], rfl, rfl, hm0, hn, hlt, h2, h2, hseen2, hmem2, hnd2, ?_, ?_, .inr rfl⟩
   ·rw [List.map_append, List.map_append, h6]
    simp [hak]
   ·intro p hp
    rcases List.mem_append.1 hp with h9 | h9
    ·exact h7 p h9
    ·rw [List.mem_singleton.1 h9]; exact ⟨ha, hav⟩
  ·have := nodup_lenN (F := es.toList.map (·.born)) hnd2 fun q hq => by
    rw [hseen2] at hq
    obtain ⟨y, hy, hyb⟩ := List.mem_map.1 hq
    exact List.mem_map.2 ⟨y, hmem2 y hy, hyb⟩
   have e1 : (seen.push x.born).toList.length = des.length + 1 := by rw [hseen2]; simp
   have e2 : (es.toList.map (·.born)).length = n := by rw [List.length_map, Array.length_toList, hn]
   omega
theorem ItR.entry {it : Nat} {a : κ} {v : Value} (h : ItR enc Ok g ob oi f n (ds ++ [(a, v)])) (hob : w.heap[g]? = some ob) (hoi : w.heap[it]? = some oi) : (Instr.entry (.pointer (some ⟨it, 0, none⟩))).run P w = .ok (.tuple #[enc a, v]) w := by
 obtain ⟨es, clock, since, seen, c0, des, he, hi, hm, hn, hlt, h1, h2, h3, h4, h5, h6, h7, h8⟩ := h
 obtain ⟨es', clock', he', hG, hnb, hcl⟩ := hm
 subst he
 cases he'
 subst hi
 have hl : des.length = ds.length + 1 := by have := congrArg List.length h6; simpa using this
 obtain ⟨des', x, rfl⟩ : ∃ d x, des = d ++ [x] := ⟨des.dropLast, des.getLast (by intro e; rw [e] at hl; simp at hl), (List.dropLast_concat_getLast _).symm⟩
 rw [List.map_append, List.map_append] at h6
 have hl2 : des'.length = ds.length := by simpa using hl
 obtain ⟨_, h9⟩ := List.append_inj h6 (by simp [hl2])
 simp only [List.map_cons, List.map_nil, List.cons.injEq, and_true, Prod.mk.injEq] at h9
 have hx := h4 x (by simp)
 have hs : seen = (des'.map (·.born)).toArray.push x.born := by
  apply Array.toList_inj.1
  rw [h3]; simp
 have hc : c0 = clock := by
  rcases h8 with h8 | h8
  ·rw [hs] at h8; simp at h8
  ·exact h8
 rw [← h9.1, ← h9.2]
 refine run_entry_at w it g since (des'.map (·.born)).toArray es clock x ?_ hob hx hnb
 rw [hoi, hs, hc]
end
section
variable {P : Program} {N : Fr} {Q : Exit → Act → World → Prop} {E : Env} {w0 : Base} {L : List Pc} {ops : Array Oper} {l : List Oper} {o : Oper} {κ : Type} {enc : κ → Value} {Ok : κ → Prop} {t k e : TypeId} {f : κ → Option Value}
theorem grown_putObj (w : World) (g : Nat) (ob : Obj) : w.grownBy (w.putObj g ob) (some g) := ⟨rfl, rfl, rfl, by simp [World.putObj], fun i hi hne => by
 have : g ≠ i := fun e => hne (by rw [e])
 simp [World.putObj, Array.getElem?_setIfInBounds, this]⟩
theorem putObj_at {w : World} {g : Nat} {o ob : Obj} (h : w.heap[g]? = some o) : (w.putObj g ob).heap[g]? = some ob := by
 have := (Array.getElem?_eq_some_iff.1 h).1
 simp [World.putObj, this]
theorem TL.mapsetR {x y z : Operand} {g i : Nat} {ob : Obj} {a : κ} {v : Value} [DecidableEq κ] (hg : o.guard = none) (hd : o.dst = none) (ho : o.op = .mapUpdate t x y z) (hx : ev E x = some (.map (some g))) (hy : ev E y = some (enc a)) (hz : ev E z = some v)
  (K : MKey P k enc Ok) (ht : P.underlying t = some (.map k e)) (hk : L[i]? = some (.oth g ob)) (hnew : Mine w0 g) (hm : MapR enc Ok ob f) (ha : Ok a)
  (h : ∀ ob', MapR enc Ok ob' (fun x => if x = a then some v else f x) → TL P N ops Q l E (Pm w0 (L.set i (.oth g ob')))) : TL P N ops Q (o :: l) E (Pm w0 L) := fun ac w hac hw =>
 wpList_plain hg fun K' hK => by
  obtain ⟨ob', w', hrun, he, hm', _⟩ := hm.put K ht (hw.at_ hk).1 ha v
  subst he
  have hex : (execOp ac.eval o).run P w = .ok .skip (w.putObj g ob') := by
   unfold execOp; rw [ho]
   simp only [hac.eval hx, hac.eval hy, hac.eval hz, Sem.run_bind, hrun, Result.andThen_ok, Sem.run_pure]
  unfold Oper.wp
  rw [hex]
  show K' (ac.put o.dst undef) _
  rw [hd]
  exact hK _ _ (h ob' hm' _ _ (hac.put0 _) (hw.turnO hk hnew (grown_putObj w g ob') (putObj_at (hw.at_ hk).1)))
theorem TL.mapentry {d : Nat} {x y : Operand} {g i : Nat} {ob : Obj} {a : κ} {z : Value} [DecidableEq κ] (hg : o.guard = none) (hd : o.dst = some d) (hN : Nat.blt d N.n = true) (ho : o.op = .mapEntry t x y) (hx : ev E x = some (.map (some g))) (hy : ev E y = some (enc a))
  (K : MKey P k enc Ok) (ht : P.underlying t = some (.map k e)) (hz : ∀ w : World, (zeroValue e).run P w = .ok z w) (hk : L[i]? = some (.oth g ob)) (hnew : Mine w0 g) (hm : MapR enc Ok ob f) (ha : Ok a) {v : Value} (hv : (f a).getD z = v)
  (h : ∀ ob' s, MapR enc Ok ob' (fun x => if x = a then some v else f x) → Stamped enc ob' a s → TL P N ops Q l ((d, .tuple #[v, .int .i64 ((s : Nat) : Int)]) :: E) (Pm w0 (L.set i (.oth g ob')))) : TL P N ops Q (o :: l) E (Pm w0 L) := by
 subst hv
 refine TL.run (α := {p : Obj × Nat // MapR enc Ok p.1 (fun x => if x = a then some ((f a).getD z) else f x) ∧ Stamped enc p.1 a p.2}) (r := fun p => .tuple #[(f a).getD z, .int .i64 ((p.1.2 : Nat) : Int)]) (I' := fun p => Pm w0 (L.set i (.oth g p.1.1))) hg hd hN (fun ac w hac hw => ?_) (fun p => h p.1.1 p.1.2 p.2.1 p.2.2)
 obtain ⟨ob', s, hrun, hm', hs⟩ := hm.entry K ht hz (hw.at_ hk).1 ha
 refine ⟨⟨(ob', s), hm', hs⟩, _, ?_, hw.turnO hk hnew (grown_putObj w g ob') (putObj_at (hw.at_ hk).1)⟩
 unfold execOp; rw [ho]
 simp only [hac.eval hx, hac.eval hy, Sem.run_bind, hrun, Result.andThen_ok, Sem.run_pure]
theorem TL.entrystore {x y z : Operand} {g i s : Nat} {ob : Obj} {a : κ} {v : Value} [DecidableEq κ] (hg : o.guard = none) (hd : o.dst = none) (ho : o.op = .entryStore t x y z) (hx : ev E x = some (.map (some g))) (hy : ev E y = some (.int .i64 ((s : Nat) : Int))) (hz : ev E z = some v)
  (K : MKey P k enc Ok) (ht : P.underlying t = some (.map k e)) (hk : L[i]? = some (.oth g ob)) (hnew : Mine w0 g) (hm : MapR enc Ok ob f) (ha : Ok a) (hs : Stamped enc ob a s)
  (h : ∀ ob', MapR enc Ok ob' (fun x => if x = a then some v else f x) → TL P N ops Q l E (Pm w0 (L.set i (.oth g ob')))) : TL P N ops Q (o :: l) E (Pm w0 L) := fun ac w hac hw =>
 wpList_plain hg fun K' hK => by
  obtain ⟨ob', hrun, hm'⟩ := hm.store K ht (hw.at_ hk).1 ha hs v
  have hex : (execOp ac.eval o).run P w = .ok .skip (w.putObj g ob') := by
   unfold execOp; rw [ho]
   simp only [hac.eval hx, hac.eval hy, hac.eval hz, Sem.run_bind, hrun, Result.andThen_ok, Sem.run_pure]
  unfold Oper.wp
  rw [hex]
  show K' (ac.put o.dst undef) _
  rw [hd]
  exact hK _ _ (h ob' hm' _ _ (hac.put0 _) (hw.turnO hk hnew (grown_putObj w g ob') (putObj_at (hw.at_ hk).1)))
theorem MapR.nc {enc : κ → Value} {ob : Obj} (h : MapR enc Ok ob f) : ob.isCells = false := by obtain ⟨_, _, he, _⟩ := h; rw [he]; rfl
theorem TL.rangeM {d : Nat} {x : Operand} {g : Nat} {ob : Obj} (hg : o.guard = none) (hd : o.dst = some d) (hN : Nat.blt d N.n = true) (ho : o.op = .range t x) (hx : ev E x = some (.map (some g))) (ht : P.underlying t = some (.map k e)) (hob : ∀ w, Pm w0 L w → w.heap[g]? = some ob) (hm : MapR enc Ok ob f)
  (h : ∀ it oi n, Mine w0 it → ItR enc Ok g ob oi f n [] → TL P N ops Q l ((d, .pointer (some ⟨it, 0, none⟩)) :: E) (Pm w0 (.oth it oi :: L))) : TL P N ops Q (o :: l) E (Pm w0 L) := by
 obtain ⟨es, clock, he, hm'⟩ := id hm
 subst he
 refine TL.run (α := {it : Nat // w0.w.heap.size ≤ it}) (r := fun it => .pointer (some ⟨it.1, 0, none⟩)) (I' := fun it => Pm w0 (.oth it.1 (.mapIter (some g) clock #[] clock) :: L)) hg hd hN (fun ac w hac hw => ?_) (fun it => h it.1 _ _ (mine_new it.2) (ItR.start hm))
 refine ⟨⟨w.heap.size, hw.oth.size⟩, w.alloc (.mapIter (some g) clock #[] clock), ?_, hw.add ((Below.refl _ _).alloc (Nat.le_refl _) _) ⟨heap_alloc_new w _, Nat.le_refl _⟩⟩
 unfold execOp; rw [ho]
 have hgo : (getObj g).run P w = .ok (.map es clock) w := by simp [getObj, Sem.run, hob w hw]
 simp [hac.eval hx, Instr.range, run_underlying ht, hgo, newObj, Sem.run]
theorem TL.nextM (K : MKey P k enc Ok) {d : Nat} {x : Operand} {g it j n : Nat} {ob oi : Obj} {ds : List (κ × Value)} (hg : o.guard = none) (hd : o.dst = some d) (hN : Nat.blt d N.n = true) (ho : o.op = .next x false) (hx : ev E x = some (.pointer (some ⟨it, 0, none⟩)))
  (hob : ∀ w, Pm w0 L w → w.heap[g]? = some ob) (hj : L[j]? = some (.oth it oi)) (hnew : Mine w0 it) (hit : ItR enc Ok g ob oi f n ds)
  (h0 : (∀ a v, f a = some v → (a, v) ∈ ds) → TL P N ops Q l ((d, .tuple #[.bool false]) :: E) (Pm w0 L))
  (h1 : ∀ a v oi', Ok a → f a = some v → a ∉ ds.map (·.1) → ItR enc Ok g ob oi' f n (ds ++ [(a, v)]) → ds.length < n → TL P N ops Q l ((d, .tuple #[.bool true, enc a, v]) :: E) (Pm w0 (L.set j (.oth it oi')))) : TL P N ops Q (o :: l) E (Pm w0 L) := fun ac w hac hw =>
 wpList_plain hg fun K' hK => by
  rcases hit.next (P := P) K (hob w hw) (hw.at_ hj).1 o.type with ⟨hr, hall⟩ | ⟨a, v, oi', w', hr, hgr, hoi, ha, hfa, hna, hit', hlt⟩
  ·have hex : (execOp ac.eval o).run P w = .ok (.value (.tuple #[.bool false])) w := by
    unfold execOp; rw [ho]
    simp only [hac.eval hx, Sem.run_bind, hr, Result.andThen_ok, Sem.run_pure]
   unfold Oper.wp
   rw [hex]
   show K' (ac.put o.dst _) _
   rw [hd]
   exact hK _ _ (h0 hall _ _ (hac.put d _ (by simpa [Nat.blt_eq] using hN)) hw)
  ·have hex : (execOp ac.eval o).run P w = .ok (.value (.tuple #[.bool true, enc a, v])) w' := by
    unfold execOp; rw [ho]
    simp only [hac.eval hx, Sem.run_bind, hr, Result.andThen_ok, Sem.run_pure]
   unfold Oper.wp
   rw [hex]
   show K' (ac.put o.dst _) _
   rw [hd]
   exact hK _ _ (h1 a v oi' ha hfa hna hit' hlt _ _ (hac.put d _ (by simpa [Nat.blt_eq] using hN)) (hw.turnO hj hnew hgr hoi))
theorem gives_entryM {x : Operand} {g it j n : Nat} {ob oi : Obj} {ds : List (κ × Value)} {a : κ} {v : Value} (ho : o.op = .entry x) (hx : ev E x = some (.pointer (some ⟨it, 0, none⟩))) (hob : ∀ w, Pm w0 L w → w.heap[g]? = some ob) (hj : L[j]? = some (.oth it oi)) (hit : ItR enc Ok g ob oi f n (ds ++ [(a, v)])) :
  Gives P N o E (Pm w0 L) (.tuple #[enc a, v]) := fun ac w hac hw => by
 unfold execOp; rw [ho]
 simp only [hac.eval hx, Sem.run_bind, hit.entry (hob w hw) (hw.at_ hj).1, Result.andThen_ok, Sem.run_pure]
end
open Go Go.RowKit
set_option maxRecDepth 20000
structure Spot where
  flow : Int
  ttl : Int
deriving DecidableEq
def Spot.cells (r : Spot) : List Value := [.int .i64 r.flow, .int .i64 r.ttl]
theorem spot_cel : Cel Spot.cells 2 := ⟨fun _ => rfl, fun r u hu => by
  simp only [Spot.cells, List.mem_cons, List.not_mem_nil, or_false] at hu
  rcases hu with rfl | rfl <;> rfl⟩
structure Place where
  ttl : Int
  addr : Int
deriving DecidableEq
def Place.cells (r : Place) : List Value := [.int .i64 r.ttl, .int .u32 r.addr]
theorem place_cel : Cel Place.cells 2 := ⟨fun _ => rfl, fun r u hu => by
  simp only [Place.cells, List.mem_cons, List.not_mem_nil, or_false] at hu
  rcases hu with rfl | rfl <;> rfl⟩
structure Stp where
  ttl : Int
  frm : Int
  to_ : Int
deriving DecidableEq
def Stp.cells (r : Stp) : List Value := [.int .i64 r.ttl, .int .u32 r.frm, .int .u32 r.to_]
theorem stp_cel : Cel Stp.cells 3 := ⟨fun _ => rfl, fun r u hu => by
  simp only [Stp.cells, List.mem_cons, List.not_mem_nil, or_false] at hu
  rcases hu with rfl | rfl | rfl <;> rfl⟩
def Spot.Ok (s : Spot) : Prop := (Lit.int .i64 s.flow).wf = true ∧ (Lit.int .i64 s.ttl).wf = true
theorem spot_lits (d : Nat) (a0 : Int) (a1 : Int) (h0 : (Lit.int .i64 a0).wf = true) (h1 : (Lit.int .i64 a1).wf = true) : Tryz.prog.keyLits (d + 2) 97 [.int .i64 a0, .int .i64 a1] = some [.int .i64 a0, .int .i64 a1] := by
  have hc : Tryz.prog.cellsOf 97 = 2 := by kernel_rfl
  have hc3 : Tryz.prog.cellsOf 3 = 1 := by kernel_rfl
  have hu3 := Tryz.underlying3
  simp [Program.keyLits, Tryz.underlying97, hc, hc3, hu3, h0, h1]
theorem spot_lit (s : Spot) (h : s.Ok) : ∃ l, keyOf Tryz.prog 97 (.agg s.cells.toArray) = some l := by
  have hkt : Tryz.prog.keyType 97 = true := by kernel_rfl
  have hc : Tryz.prog.cellsOf 97 = 2 := by kernel_rfl
  have hf : (Value.agg s.cells.toArray).formed Tryz.prog 97 = true := by simp [Value.formed, Tryz.underlying97, hc, Spot.cells]
  have hp : 0 < Tryz.prog.types.size := of_decide_eq_true (by kernel_rfl)
  have hl := spot_lits (Tryz.prog.types.size - 1) s.flow s.ttl h.1 h.2
  rw [show Tryz.prog.types.size - 1 + 2 = Tryz.prog.types.size + 1 by omega] at hl
  refine ⟨.string (keyBytes [.int .i64 s.flow, .int .i64 s.ttl]), ?_⟩
  unfold keyOf
  rw [Tryz.underlying97]
  simp only [hkt, hf, Bool.and_self, if_true]
  show Option.map _ (Tryz.prog.keyLits _ _ [.int .i64 s.flow, .int .i64 s.ttl]) = _
  rw [hl]
  rfl
theorem spot_key : MKey Tryz.prog 97 (fun s : Spot => .agg s.cells.toArray) Spot.Ok where
  keyed := Maps.Keyed.of_law (deep_law (m := 2) (by omega) (by kernel_rfl) (by kernel_rfl) (by rw [Tryz.underlying97]))
  lit := spot_lit
  inj := fun a b h => by
    cases a; cases b
    simpa [Spot.cells] using h
def Place.Ok (s : Place) : Prop := (Lit.int .i64 s.ttl).wf = true ∧ (Lit.int .u32 s.addr).wf = true
theorem place_lits (d : Nat) (a0 : Int) (a1 : Int) (h0 : (Lit.int .i64 a0).wf = true) (h1 : (Lit.int .u32 a1).wf = true) : Tryz.prog.keyLits (d + 2) 99 [.int .i64 a0, .int .u32 a1] = some [.int .i64 a0, .int .u32 a1] := by
  have hc : Tryz.prog.cellsOf 99 = 2 := by kernel_rfl
  have hc3 : Tryz.prog.cellsOf 3 = 1 := by kernel_rfl
  have hu3 := Tryz.underlying3
  have hc30 : Tryz.prog.cellsOf 30 = 1 := by kernel_rfl
  have hu30 := Tryz.underlying30
  simp [Program.keyLits, Tryz.underlying99, hc, hc3, hu3, hc30, hu30, h0, h1]
theorem place_lit (s : Place) (h : s.Ok) : ∃ l, keyOf Tryz.prog 99 (.agg s.cells.toArray) = some l := by
  have hkt : Tryz.prog.keyType 99 = true := by kernel_rfl
  have hc : Tryz.prog.cellsOf 99 = 2 := by kernel_rfl
  have hf : (Value.agg s.cells.toArray).formed Tryz.prog 99 = true := by simp [Value.formed, Tryz.underlying99, hc, Place.cells]
  have hp : 0 < Tryz.prog.types.size := of_decide_eq_true (by kernel_rfl)
  have hl := place_lits (Tryz.prog.types.size - 1) s.ttl s.addr h.1 h.2
  rw [show Tryz.prog.types.size - 1 + 2 = Tryz.prog.types.size + 1 by omega] at hl
  refine ⟨.string (keyBytes [.int .i64 s.ttl, .int .u32 s.addr]), ?_⟩
  unfold keyOf
  rw [Tryz.underlying99]
  simp only [hkt, hf, Bool.and_self, if_true]
  show Option.map _ (Tryz.prog.keyLits _ _ [.int .i64 s.ttl, .int .u32 s.addr]) = _
  rw [hl]
  rfl
theorem place_key : MKey Tryz.prog 99 (fun s : Place => .agg s.cells.toArray) Place.Ok where
  keyed := Maps.Keyed.of_law (deep_law (m := 2) (by omega) (by kernel_rfl) (by kernel_rfl) (by rw [Tryz.underlying99]))
  lit := place_lit
  inj := fun a b h => by
    cases a; cases b
    simpa [Place.cells] using h
def Stp.Ok (s : Stp) : Prop := (Lit.int .i64 s.ttl).wf = true ∧ (Lit.int .u32 s.frm).wf = true ∧ (Lit.int .u32 s.to_).wf = true
theorem stp_lits (d : Nat) (a0 : Int) (a1 : Int) (a2 : Int) (h0 : (Lit.int .i64 a0).wf = true) (h1 : (Lit.int .u32 a1).wf = true) (h2 : (Lit.int .u32 a2).wf = true) : Tryz.prog.keyLits (d + 2) 102 [.int .i64 a0, .int .u32 a1, .int .u32 a2] = some [.int .i64 a0, .int .u32 a1, .int .u32 a2] := by
  have hc : Tryz.prog.cellsOf 102 = 3 := by kernel_rfl
  have hc3 : Tryz.prog.cellsOf 3 = 1 := by kernel_rfl
  have hu3 := Tryz.underlying3
  have hc30 : Tryz.prog.cellsOf 30 = 1 := by kernel_rfl
  have hu30 := Tryz.underlying30
  simp [Program.keyLits, Tryz.underlying102, hc, hc3, hu3, hc30, hu30, h0, h1, h2]
theorem stp_lit (s : Stp) (h : s.Ok) : ∃ l, keyOf Tryz.prog 102 (.agg s.cells.toArray) = some l := by
  have hkt : Tryz.prog.keyType 102 = true := by kernel_rfl
  have hc : Tryz.prog.cellsOf 102 = 3 := by kernel_rfl
  have hf : (Value.agg s.cells.toArray).formed Tryz.prog 102 = true := by simp [Value.formed, Tryz.underlying102, hc, Stp.cells]
  have hp : 0 < Tryz.prog.types.size := of_decide_eq_true (by kernel_rfl)
  have hl := stp_lits (Tryz.prog.types.size - 1) s.ttl s.frm s.to_ h.1 h.2.1 h.2.2
  rw [show Tryz.prog.types.size - 1 + 2 = Tryz.prog.types.size + 1 by omega] at hl
  refine ⟨.string (keyBytes [.int .i64 s.ttl, .int .u32 s.frm, .int .u32 s.to_]), ?_⟩
  unfold keyOf
  rw [Tryz.underlying102]
  simp only [hkt, hf, Bool.and_self, if_true]
  show Option.map _ (Tryz.prog.keyLits _ _ [.int .i64 s.ttl, .int .u32 s.frm, .int .u32 s.to_]) = _
  rw [hl]
  rfl
theorem stp_key : MKey Tryz.prog 102 (fun s : Stp => .agg s.cells.toArray) Stp.Ok where
  keyed := Maps.Keyed.of_law (deep_law (m := 2) (by omega) (by kernel_rfl) (by kernel_rfl) (by rw [Tryz.underlying102]))
  lit := stp_lit
  inj := fun a b h => by
    cases a; cases b
    simpa [Stp.cells] using h
end Go.Proofs.YtnejdeklnmkhbaaGreat
