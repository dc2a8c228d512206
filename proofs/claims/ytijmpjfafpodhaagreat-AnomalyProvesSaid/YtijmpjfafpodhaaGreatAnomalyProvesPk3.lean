/-
  Texts of the proof, joined: SymCopy, PtROrd, PtTrc, PtOf, AnBl, AnDel, AnSt, AnBh, BdAddr, BdReg, AnDt, AnD2, CgLaw, AnCg, AnBr, AnC2, AnPr, DcDraw, DcNet, AnDr, AnMin, FnLaw, FnLaw2.
-/
import Derived.Test.YtijmpjfafpodhaaGreatAnomalyProvesPk2
import Derived.Test.YtijmpjfafpodhaaGreatAnomalyProvesPk1
import Derived.Lib.Overlaps
import Derived.Sort.OwnSortedInts
set_option linter.unusedVariables false
set_option linter.unusedSimpArgs false
namespace Go.Proofs.YtijmpjfafpodhaaGreat
set_option maxHeartbeats 1000000
open Go.RowKit
section
variable {P : Program}
theorem run_copy_at (w : World) (dT sT ty elem : TypeId) (g off dLen dCap : Nat) (a : Addr) (sLen sCap size : Nat) (cur : Array Value) (t : TypeId) (cs : List Value) (hu : P.underlying dT = some (.slice elem)) (hs : ∀ w : World, (sizeOf elem).run P w = .ok size w)
    (hg : w.heap[g]? = some (.cells cur t (0, 0))) (hn : cs.length = Nat.min sLen dLen * size) (hsrc : ∀ j v, cs[j]? = some v → w.cell? (a.add j) = some v) (hfit : off + cs.length ≤ cur.size) (h1 : ∀ v ∈ cs, v.oneCell' = true) :
    (Builtin.copy_ #[dT, sT] ty #[.slice (some ⟨g, off, none⟩) dLen dCap, .slice (some a) sLen sCap]).run P w =
      .ok (goInt (Nat.min sLen dLen)) (w.setRow g (cur.toList.take off ++ cs ++ cur.toList.drop (off + cs.length)).toArray) := by
  have hfo := run_firstCells_some (P := P) w size (Nat.min sLen dLen) a sLen sCap cs hn hsrc
  have hst := run_storeCells_at P g off t cs 0 cur w hg (by simpa using hfit) h1
  simp only [Nat.add_zero] at hst
  have hmin : Nat.min sLen dLen = min sLen dLen := rfl
  rw [hmin] at hfo ⊢
  simp [Builtin.copy_, run_underlying hu, Builtin.lenOf, hs, hfo, hst]
variable {N : Fr} {Q : Exit → Act → World → Prop} {E : Env} {w0 : Base} {L : List Pc} {ops : Array Oper} {l : List Oper} {o : Oper}
theorem TL.copyRow {d k n c g off dl dc sl sc size : Nat} {s x : Operand} {t u e : TypeId} {ad : Addr} {xs cs xs' : List Value} (hg : o.guard = none) (hd : o.dst = some d) (hN : Nat.blt d N.n = true)
    (ho : o.op = .call { callee := .builtin .copy, args := #[s, x], argTypes := #[t, u] }) (ht : P.underlying t = some (.slice e)) (hz : ∀ w : World, (sizeOf e).run P w = .ok size w) (hs : ev E s = some (.slice (some ⟨g, off, none⟩) dl dc)) (hx : ev E x = some (.slice (some ad) sl sc))
    (hk : L[k]? = some (.row (.slice (some ⟨g, 0, none⟩) n c) e size n xs)) (hsrc : ∀ w, Pm w0 L w → ∀ j v, cs[j]? = some v → w.cell? (ad.add j) = some v) {m : Nat} (hm : Nat.min sl dl = m) (hn : cs.length = m * size) (hl : off + cs.length ≤ xs.length) (h1 : ∀ v ∈ cs, v.oneCell' = true)
    (hL : xs.take off ++ cs ++ xs.drop (off + cs.length) = xs')
    (h : TL P N ops Q l ((d, .int .i64 ((m : Nat) : Int)) :: E) (Pm w0 (L.set k (.row (.slice (some ⟨g, 0, none⟩) n c) e size n xs')))) : TL P N ops Q (o :: l) E (Pm w0 L) := by
  subst hL hm
  refine TL.run (α := Unit) (r := fun _ => .int .i64 ((Nat.min sl dl : Nat) : Int)) (I' := fun _ => Pm w0 (L.set k (.row (.slice (some ⟨g, 0, none⟩) n c) e size n (xs.take off ++ cs ++ xs.drop (off + cs.length))))) hg hd hN (fun a w ha hw => ?_) (fun _ => h)
  obtain ⟨cur, hcur, hfit, hown⟩ := row_put (hw.at_ hk) hl
  have hrun := run_copy_at (P := P) w t u o.type e g off dl dc ad sl sc size cur e cs ht hz hcur hn (hsrc w hw) hfit h1
  refine ⟨(), _, ?_, hw.turn hk (grown_setRow _ _) hown (fun g' hg' => .inl hg') (fun k o e => by cases e)⟩
  unfold execOp; rw [ho]
  simp only [resolve, invoke, builtin, Sem.run_bind, Sem.run_pure, Result.andThen_ok, List.map_toArray, List.map_cons, List.map_nil, ha.eval hs, ha.eval hx, hrun]
  rfl
def shiftL {α : Type} (xs : List α) (k : Nat) : List α := xs.take (k + 1) ++ (xs.drop k).take (xs.length - (k + 1))
theorem shiftL_len {α : Type} (xs : List α) (k : Nat) (hk : k < xs.length) : (shiftL xs k).length = xs.length := by
  simp only [shiftL, List.length_append, List.length_take, List.length_drop]; omega
theorem shiftL_at {α : Type} (o : List α) (y x : α) (k : Nat) (hk : k ≤ o.length) : (shiftL (o ++ [y]) k).set k x = o.take k ++ x :: o.drop k := by
  unfold shiftL
  have e1 : (o ++ [y]).take (k + 1) = o.take k ++ [((o ++ [y])[k]?).getD y] := by
    rw [List.take_add_one, List.take_append_of_le_length hk]
    have : k < (o ++ [y]).length := by simp; omega
    rw [List.getElem?_eq_getElem this]
    rfl
  have e2 : ((o ++ [y]).drop k).take ((o ++ [y]).length - (k + 1)) = o.drop k := by
    rw [List.drop_append_of_le_length hk, List.length_append, List.length_singleton, Nat.add_sub_add_right, List.take_append_of_le_length (by simp), List.take_of_length_le (by simp)]
  have e3 : (o.take k).length = k := by rw [List.length_take]; omega
  rw [e1, e2, List.append_assoc, List.set_append_right _ _ (by omega), e3, Nat.sub_self]
  rfl
theorem min_gap (n k : Nat) : Nat.min (n - k) (n - (k + 1)) = n - (k + 1) := Nat.min_eq_right (by omega)
theorem TL.shiftF {α : Type} {cc : α → List Value} {size : Nat} (K : Cel cc size) {d kk k n c g : Nat} {s x : Operand} {t u e : TypeId} {xs : List α} (hg : o.guard = none) (hd : o.dst = some d) (hN : Nat.blt d N.n = true)
    (ho : o.op = .call { callee := .builtin .copy, args := #[s, x], argTypes := #[t, u] }) (ht : P.underlying t = some (.slice e)) (hz : ∀ w : World, (sizeOf e).run P w = .ok size w)
    (hs : ev E s = some (.slice (if c = k + 1 then some ⟨g, 0, none⟩ else (some (⟨g, 0, none⟩ : Addr)).map (·.add ((k + 1) * size))) (n - (k + 1)) (c - (k + 1)))) (hx : ev E x = some (.slice (some ⟨g, k * size, none⟩) (n - k) (c - k)))
    (hk : L[kk]? = some (.row (.slice (some ⟨g, 0, none⟩) n c) e size n (flat cc xs))) (hn : xs.length = n) (hq : k < n) (hc : n ≤ c)
    (h : TL P N ops Q l ((d, .int .i64 ((n - (k + 1) : Nat) : Int)) :: E) (Pm w0 (L.set kk (.row (.slice (some ⟨g, 0, none⟩) n c) e size n (flat cc (shiftL xs k)))))) : TL P N ops Q (o :: l) E (Pm w0 L) := by
  subst hn
  have hcs : (flat cc ((xs.drop k).take (xs.length - (k + 1)))).length = (xs.length - (k + 1)) * size := by rw [flat_len K, List.length_take, List.length_drop, Nat.min_eq_left (by omega)]
  have hlen : (flat cc xs).length = xs.length * size := flat_len K xs
  have hsz : (k + 1) * size ≤ xs.length * size := Nat.mul_le_mul_right _ (by omega)
  have hsum : (k + 1) * size + (xs.length - (k + 1)) * size = xs.length * size := by rw [← Nat.add_mul]; congr 1; omega
  have hsrc : ∀ w, Pm w0 L w → ∀ j v, (flat cc ((xs.drop k).take (xs.length - (k + 1))))[j]? = some v → w.cell? ((⟨g, k * size, none⟩ : Addr).add j) = some v := fun w hw j v hj => by
    have e1 : (⟨g, k * size, none⟩ : Addr).add j = ⟨g, k * size + j, none⟩ := by unfold Addr.add; split <;> simp_all
    rw [e1]
    have hjl := (List.getElem?_eq_some_iff.1 hj).1
    rw [hcs] at hjl
    refine pm_row hw hk ?_
    rw [← flat_take K, List.getElem?_take_of_lt hjl, ← flat_drop K, List.getElem?_drop] at hj
    exact hj
  by_cases e : c = k + 1
  · have hnk : xs.length = k + 1 := by omega
    rw [if_pos e] at hs
    refine TL.copyRow (cs := flat cc ((xs.drop k).take (xs.length - (k + 1)))) (m := xs.length - (k + 1)) hg hd hN ho ht hz hs hx hk hsrc (min_gap _ _) hcs (by rw [hcs, hlen]; omega) (flat_one K _) (xs' := flat cc (shiftL xs k)) ?_ h
    have e0 : xs.length - (k + 1) = 0 := by omega
    have e2 : shiftL xs k = xs := by unfold shiftL; rw [e0, List.take_zero, List.append_nil, List.take_of_length_le (by omega)]
    rw [e2, e0, List.take_zero]
    simp [flat]
  · rw [if_neg e] at hs
    have e1 : (some (⟨g, 0, none⟩ : Addr)).map (·.add ((k + 1) * size)) = some ⟨g, (k + 1) * size, none⟩ := by
      show some ((⟨g, 0, none⟩ : Addr).add ((k + 1) * size)) = _
      congr 1
      unfold Addr.add; split <;> simp_all
    rw [e1] at hs
    refine TL.copyRow (cs := flat cc ((xs.drop k).take (xs.length - (k + 1)))) (m := xs.length - (k + 1)) hg hd hN ho ht hz hs hx hk hsrc (min_gap _ _) hcs (by rw [hcs, hlen]; omega) (flat_one K _) (xs' := flat cc (shiftL xs k)) ?_ h
    have e3 : (flat cc xs).drop ((k + 1) * size + (flat cc ((xs.drop k).take (xs.length - (k + 1)))).length) = [] := List.drop_of_length_le (by rw [hcs, hsum, hlen]; exact Nat.le_refl _)
    rw [e3, List.append_nil, flat_take K, ← flat_app]
    rfl
end
set_option maxRecDepth 20000
theorem IsOrd.nil : IsOrd [] [] := ⟨List.Pairwise.nil, fun x => by simp⟩
theorem mem_take_snoc {α : Type} {l : List α} {i : Nat} {x z : α} (hx : l[i]? = some x) : z ∈ l.take (i + 1) ↔ z ∈ l.take i ∨ z = x := by
 rw [List.take_add_one, hx, List.mem_append]
 simp
theorem IsOrd.skip {l o : List Rs} {i : Nat} {x : Rs} (h : IsOrd (l.take i) o) (hx : l[i]? = some x) (hv : vldRs x = false) : IsOrd (l.take (i + 1)) o := ⟨h.1, fun z => by
 rw [h.2, mem_take_snoc hx]
 constructor
 ·exact fun hh => ⟨.inl hh.1, hh.2⟩
 rintro ⟨h1 | h1, h2⟩
 ·exact ⟨h1, h2⟩
 subst h1; rw [hv] at h2; cases h2⟩
theorem IsOrd.dup {l o : List Rs} {i q : Nat} {x y : Rs} (h : IsOrd (l.take i) o) (hx : l[i]? = some x) (hv : vldRs x = true) (hok : ∀ r ∈ l, r.Ok) (hy : o[q]? = some y) (hc : cmpRs y x = 0) : IsOrd (l.take (i + 1)) o := by
 have hym := List.mem_of_getElem? hy
 have e : y = x := keys_inj (hok y (List.mem_of_mem_take ((h.2 y).1 hym).1)) (hok x (List.mem_of_getElem? hx)) ((lexI_zero (a := y.keys) (b := x.keys) rfl).1 hc)
 subst e
 refine ⟨h.1, fun z => ?_⟩
 rw [h.2, mem_take_snoc hx]
 constructor
 ·exact fun hh => ⟨.inl hh.1, hh.2⟩
 rintro ⟨h1 | h1, h2⟩
 ·exact ⟨h1, h2⟩
 rw [h1]; exact (h.2 y).1 hym
theorem IsOrd.put {l o : List Rs} {i q : Nat} {x : Rs} (h : IsOrd (l.take i) o) (hx : l[i]? = some x) (hv : vldRs x = true) (h1 : ∀ y ∈ o.take q, lexI y.keys x.keys < 0) (h2 : ∀ y ∈ o.drop q, lexI x.keys y.keys < 0) : IsOrd (l.take (i + 1)) (o.take q ++ x :: o.drop q) := by
 refine ⟨ascK_put keys_len h.1 h1 h2, fun z => ?_⟩
 rw [mem_put, h.2, mem_take_snoc hx]
 constructor
 ·rintro (hh | hh)
  ·exact ⟨.inl hh.1, hh.2⟩
  rw [hh]; exact ⟨.inr rfl, hv⟩
 rintro ⟨h3 | h3, h4⟩
 ·exact .inl ⟨h3, h4⟩
 exact .inr h3
theorem rord_any (A0 : Option Addr) (c0 : Nat) (l : List Rs) (w : World) (hr : Reads w w.heap.size 17 A0 l.length (flat Rs.cells l)) (hl1 : l.length ≤ 100000) (hok : ∀ r ∈ l, r.Ok) :
  Calls Tryz.prog 95 #[.slice A0 l.length c0] w fun e w' => ∃ x : {y : (Option Addr × Nat) × List Rs // IsOrd l y.2 ∧ y.2.length ≤ y.1.2 ∧ y.1.2 ≤ maxLen}, e = .returned (.slice x.1.1.1 x.1.2.length x.1.1.2) ∧ Pm w [.row (.slice x.1.1.1 x.1.2.length x.1.1.2) 65 17 x.1.2.length (flat Rs.cells x.1.2)] w' := by
 refine begin_ (vs := [.slice A0 l.length c0]) Tryz.func95 rfl rfl rfl ?_ (Pm.start w)
 refine zSG (TL.as_ ?_)
 refine zET (zSG (TL.as_ ?_))
 refine zET (zS (zSG (TL.as_ ?_)))
 refine zET (zB (TC.nilrow 65 17 ?_))
 refine TC.loop_ (α := {y : Nat × (Option Addr × Nat) × Nat × List Rs // y.1 ≤ l.length ∧ (IsOrd (l.take y.1) y.2.2.2) ∧ y.2.2.1 ≤ y.1 ∧ y.2.2.1 ≤ y.2.1.2 ∧ y.2.1.2 ≤ maxLen ∧ y.2.2.2.length = y.2.2.1}) (fun y => [(0, .slice A0 l.length c0), (2, .slice none 0 0), (4, .int .i64 ((y.1.1 : Nat) : Int)), (3, .slice y.1.2.1.1 y.1.2.2.1 y.1.2.1.2)]) (fun y => Pm w [.row (.slice y.1.2.1.1 y.1.2.2.1 y.1.2.1.2) 65 17 y.1.2.2.1 (flat Rs.cells y.1.2.2.2)]) (fun y => l.length - y.1.1) (⟨(0, (none, 0), 0, []), Nat.zero_le _, IsOrd.nil, Nat.le_refl _, Nat.le_refl _, Nat.zero_le _, rfl⟩) ⟨rfl, rfl, rfl, rfl, trivial⟩ (fun w1 hw => hw) ?_
 rintro ⟨⟨i, ⟨Ao, co⟩, m, out⟩, hi, hout, houtl, houtc, houtm, houtn⟩
 dsimp only at hi hout houtl houtc houtm houtn ⊢
 refine zS (zSG (TL.rn 2 rfl (TL.v (gN Tryz.underlying23) ?_)))
 refine TL.vsplit rfl rfl rfl (gives_bin rfl rfl rfl (fun w => bin_lss w)) (fun h9 => ?_) (fun h9 => ?_)
 ·have q9 := of_decide_eq_true h9
  refine zET (zc (zk (zT (zS (zB (zS (zSG (TL.rn 2 rfl ?_))))))))
  have hi14 : i < l.length := by omega
  obtain ⟨x14, hx14⟩ := ex_at hi14
  obtain ⟨b14, o14, hA14, hbb14, hc14⟩ := hr.ad (by omega) (by decide)
  refine TL.val rfl rfl rfl (gA (i := i) Tryz.underlying23 prssz65 rfl rfl rfl rfl hA14 (by omega)) ?_
  refine TL.v (gR rs_cel prsag65 prssz65 hbb14 hx14 hc14) ?_
  refine TL.callsplit rfl rfl rfl rfl rfl Tryz.func71 (by decide) rfl (fun w1 hw => rvldRs_any x14 w1) (fun h16 => ?_) (fun h16 => ?_)
  ·refine TL.val rfl rfl rfl (gives_boolnot rfl rfl) ?_
   refine zET (zd (zk (zT (zSG (TL.mv ?_)))))
   refine TL.v (gN Tryz.underlying23) ?_
   refine TL.as_ ?_
   refine zET (zS (zB ?_))
   refine TC.loop_ (α := {k : Nat // k ≤ out.length ∧ ∀ z ∈ out.drop k, lexI x14.keys z.keys < 0}) (fun y => [(0, .slice A0 l.length c0), (2, .slice none 0 0), (3, .slice Ao m co), (4, .int .i64 ((i : Nat) : Int)), (5, .int .i64 ((y.1 : Nat) : Int))]) (fun y => Pm w [.row (.slice Ao m co) 65 17 m (flat Rs.cells out)]) (fun y => y.1) (⟨m, by omega, fun z hz => by rw [List.drop_of_length_le (by omega)] at hz; cases hz⟩) ⟨rfl, rfl, rfl, rfl, rfl, trivial⟩ (fun w1 hw => hw) ?_
   rintro ⟨k, hk, hgt⟩
   try dsimp only at hk hgt ⊢
   refine zS (zS ?_)
   by_cases hk0 : k = 0
   ·refine TC.quietQ (by kernel_rfl) (by kernel_rfl) (fun w hw => hw.drawn _) ?_
    refine TQ.val rfl rfl rfl (gives_move rfl rfl) ?_
    refine TQ.val rfl rfl rfl (gives_bin rfl rfl rfl (fun w => bin_gtr_f (by omega) w)) ?_
    refine TQ.rn 13 rfl ?_
    refine TQ.fin ?_
    refine zT (zd (zx (zX (zX (zM (zT (zS (zS ?_))))))))
    ·refine TC.quietQ (by kernel_rfl) (by kernel_rfl) (fun w hw => hw.drawn _) ?_
     refine TQ.val rfl rfl rfl (gives_move rfl rfl) ?_
     refine TQ.val rfl rfl rfl (gives_bin rfl rfl rfl (fun w => bin_gtr_f (by omega) w)) ?_
     refine TQ.rn 13 rfl ?_
     refine TQ.fin ?_
     refine zT (zd (zk (zT (zSG (TL.rn 3 rfl ?_)))))
     refine TL.val rfl rfl rfl (gA (i := i) Tryz.underlying23 prssz65 rfl rfl rfl rfl hA14 (by omega)) ?_
     refine TL.v (gR rs_cel prsag65 prssz65 hbb14 hx14 hc14) ?_
     refine TL.prowS (e := 65) (size := 17) (cs := flat Rs.cells [x14]) rfl rfl rfl rfl rfl (fun w => porbs23_1_99505 _ _ _ _ _ _ _ _ _ _ _ _ _ _ _ _ _ w) (by decide) rfl (fun g57 => ?_)
     refine TL.appendT (k := 1) rfl rfl rfl rfl Tryz.underlying23 porel23 rfl rfl rfl (fun w1 hw => pm_reads hw (k := 0) rfl) (flat_one rs_cel _) (by show _ * 128 ≤ _; omega) (m + 1) (rfl) (flat Rs.cells (out ++ [x14])) ((flat_app _ _).symm) (fun A58 c58 hA581 hA582 => ?_)
     refine TL.as_ ?_
     refine zET (zS ?_)
     have hn1 : (out ++ [x14]).length = out.length + 1 := by simp
     have hn2 : (shiftL (out ++ [x14]) k).length = out.length + 1 := by rw [shiftL_len _ _ (by omega), hn1]
     refine TC.fact (p := ∃ g, A58 = some ⟨g, 0, none⟩) (fun w1 hw => rowA hw (k := 1) rfl (by simp)) ?_
     rintro ⟨g_A58, rfl⟩
     refine TC.tail 7 (by kernel_rfl) (by kernel_rfl) (fun w hw => hw.drawn _) ?_
     refine TS.val rfl rfl rfl (gives_move rfl rfl) ?_
     refine TS.val rfl rfl rfl (gives_move rfl rfl) ?_
     refine TS.v (gD ((k + 1 : Nat) : Int)) ?_
     refine TS.val rfl rfl rfl (gives_sliceL (v := .slice (if c58 = k + 1 then some ⟨g_A58, 0, none⟩ else (some (⟨g_A58, 0, none⟩ : Addr)).map (·.add ((k + 1) * 17))) ((m + 1) - (k + 1)) (c58 - (k + 1))) rfl rfl rfl (fun w => cut_lo Tryz.underlying23 prssz65 _ _ _ (k + 1) rfl (by omega) w)) ?_
     refine TS.val rfl rfl rfl (gives_move rfl rfl) ?_
     refine TS.val rfl rfl rfl (gives_move rfl rfl) ?_
     refine TS.val rfl rfl rfl (gives_tailF (q := k) rfl rfl rfl rfl Tryz.underlying23 prssz65 (by omega) (by omega)) ?_
     refine TS.end_ ?_
     refine TL.shiftF rs_cel (kk := 1) (k := k) rfl rfl rfl rfl Tryz.underlying23 prssz65 rfl rfl rfl (by omega) (by omega) (by omega) ?_
     try dsimp only [List.set_cons_zero, List.set_cons_succ]
     refine zET (zG (TL.rn 4 rfl ?_))
     refine TL.val rfl rfl rfl (gA (i := i) Tryz.underlying23 prssz65 rfl rfl rfl rfl hA14 (by omega)) ?_
     refine TL.v (gR rs_cel prsag65 prssz65 hbb14 hx14 hc14) ?_
     have hi73 : k < (shiftL (out ++ [x14]) k).length := by omega
     obtain ⟨x73, hx73⟩ := ex_at hi73
     refine TL.val rfl rfl rfl (gA (i := k) Tryz.underlying23 prssz65 rfl rfl rfl rfl rfl (by omega)) ?_
     refine TL.rowset (k := 1) (vs := x14.cells) (xs' := flat Rs.cells ((shiftL (out ++ [x14]) k).set k x14)) rfl rfl rfl rfl rfl rfl rfl prssz65 (rs_cel.one _) (by rw [flat_len rs_cel]; show 0 + k * 17 + 17 ≤ _; omega) (flat_put rs_cel (q := 0) (y := x14) hx73 (by show 0 + 17 ≤ 17; decide) rfl) ?_
     try dsimp only [List.set_cons_zero, List.set_cons_succ]
     refine zE (zN (zT (zG (TL.mv ?_))))
     refine TL.v (gD ((i + 1 : Nat) : Int)) ?_
     refine TL.as_ ?_
     refine zE ?_
     exact TX.round (⟨(i + 1, ((some ⟨g_A58, 0, none⟩), c58), m + 1, (shiftL (out ++ [x14]) k).set k x14), by dsimp only; omega, by dsimp only; rw [shiftL_at _ _ _ _ (by omega)]; exact hout.put hx14 h16 (fun z hz => by rw [hk0, List.take_zero] at hz; cases hz) hgt, by dsimp only; omega, hA581, hA582, by dsimp only; rw [List.length_set]; omega⟩) (by show l.length - (i + 1) < l.length - i; omega) ⟨rfl, rfl, rfl, rfl, trivial⟩ (fun w1 hw => hw.pick [1] (by decide) rfl)
   refine TC.fact (p := ∃ g, Ao = some ⟨g, 0, none⟩) (fun w1 hw => rowA hw (k := 0) rfl (by omega)) ?_
   rintro ⟨g_Ao, rfl⟩
   refine TC.quietQ (by kernel_rfl) (by kernel_rfl) (fun w hw => hw.drawn _) ?_
   refine TQ.val rfl rfl rfl (gives_move rfl rfl) ?_
   refine TQ.val rfl rfl rfl (gives_bin rfl rfl rfl (fun w => bin_gtr_t (by omega) w)) ?_
   refine TQ.rn 3 rfl ?_
   refine TQ.on rfl rfl rfl ?_
   refine TQ.val rfl rfl rfl (gives_bin rfl rfl rfl (fun w => bin_sub_ (r := ((k - 1 : Nat) : Int)) (by simp only [IntKind.wrap_i64]; omega) w)) ?_
   refine TQ.on rfl rfl rfl ?_
   have hi26 : k - 1 < out.length := by omega
   obtain ⟨x26, hx26⟩ := ex_at hi26
   refine TQ.val rfl rfl rfl (gA (i := (k - 1)) Tryz.underlying23 prssz65 rfl rfl rfl rfl rfl (by omega)) ?_
   refine TQ.on rfl rfl rfl ?_
   refine TQ.val rfl rfl rfl (gives_loadR (off := 0 + (k - 1) * 17) rfl rfl prsag65 prssz65 (rs_cel.len x26) (fun w1 hw j9 u9 h9 => flat_row rs_cel hw (q := 0) rfl hx26 j9 u9 h9)) ?_
   refine TQ.rn 2 rfl ?_
   refine TQ.on rfl rfl rfl ?_
   refine TQ.val rfl rfl rfl (gA (i := i) Tryz.underlying23 prssz65 rfl rfl rfl rfl hA14 (by omega)) ?_
   refine TQ.ov (gR rs_cel prsag65 prssz65 hbb14 hx14 hc14) ?_
   refine TQ.on rfl rfl rfl ?_
   refine TQ.call (v := .int .i64 (cmpRs x26 x14)) rfl rfl rfl rfl rfl Tryz.func147 (by decide) rfl (fun w1 hw => (rcmpRs_any x26 x14 w1).mono fun en w2 ⟨h1, h2⟩ => ⟨h1, hw.below h2⟩) ?_
   refine TQ.on rfl rfl rfl ?_
   refine TQ.sp bin_gtr (fun q33 => ?_) (fun q33 => ?_)
   ·have hgt2 : ∀ z ∈ out.drop (k - 1), lexI x14.keys z.keys < 0 := ascK_behind keys_len hout.1 hx26 ((posK keys_len).1 q33)
    refine TQ.val rfl rfl rfl (gives_pick rfl rfl rfl) ?_
    refine TQ.fin ?_
    refine zT (zc (zk (zT (zB (zG (TL.mv ?_))))))
    refine TL.val rfl rfl rfl (gives_bin rfl rfl rfl (fun w => bin_sub_ (r := ((k - 1 : Nat) : Int)) (by simp only [IntKind.wrap_i64]; omega) w)) ?_
    refine TL.as_ ?_
    refine zE (zN ?_)
    exact TX.round (⟨k - 1, by omega, hgt2⟩) (by show k - 1 < k; omega) ⟨rfl, rfl, rfl, rfl, rfl, trivial⟩ (fun w1 hw => hw)
   refine TQ.val rfl rfl rfl (gives_pick rfl rfl rfl) ?_
   refine TQ.fin ?_
   refine zT (zd (zx (zX (zX (zM (zT (zS (zS ?_))))))))
   ·refine TC.quietQ (by kernel_rfl) (by kernel_rfl) (fun w hw => hw.drawn _) ?_
    refine TQ.val rfl rfl rfl (gives_move rfl rfl) ?_
    refine TQ.val rfl rfl rfl (gives_bin rfl rfl rfl (fun w => bin_gtr_t (by omega) w)) ?_
    refine TQ.rn 3 rfl ?_
    refine TQ.on rfl rfl rfl ?_
    refine TQ.val rfl rfl rfl (gives_bin rfl rfl rfl (fun w => bin_sub_ (r := ((k - 1 : Nat) : Int)) (by simp only [IntKind.wrap_i64]; omega) w)) ?_
    refine TQ.on rfl rfl rfl ?_
    refine TQ.val rfl rfl rfl (gA (i := (k - 1)) Tryz.underlying23 prssz65 rfl rfl rfl rfl rfl (by omega)) ?_
    refine TQ.on rfl rfl rfl ?_
    refine TQ.val rfl rfl rfl (gives_loadR (off := 0 + (k - 1) * 17) rfl rfl prsag65 prssz65 (rs_cel.len x26) (fun w1 hw j9 u9 h9 => flat_row rs_cel hw (q := 0) rfl hx26 j9 u9 h9)) ?_
    refine TQ.rn 2 rfl ?_
    refine TQ.on rfl rfl rfl ?_
    refine TQ.val rfl rfl rfl (gA (i := i) Tryz.underlying23 prssz65 rfl rfl rfl rfl hA14 (by omega)) ?_
    refine TQ.ov (gR rs_cel prsag65 prssz65 hbb14 hx14 hc14) ?_
    refine TQ.on rfl rfl rfl ?_
    refine TQ.call (v := .int .i64 (cmpRs x26 x14)) rfl rfl rfl rfl rfl Tryz.func147 (by decide) rfl (fun w1 hw => (rcmpRs_any x26 x14 w1).mono fun en w2 ⟨h1, h2⟩ => ⟨h1, hw.below h2⟩) ?_
    refine TQ.on rfl rfl rfl ?_
    refine TQ.sp bin_eql (fun q50 => ?_) (fun q50 => ?_)
    ·refine TQ.val rfl rfl rfl (gives_pick rfl rfl rfl) ?_
     refine TQ.fin ?_
     refine zT (zc (zx (zX (zM (zT (zG (TL.mv ?_)))))))
     refine TL.v (gD ((i + 1 : Nat) : Int)) ?_
     refine TL.as_ ?_
     refine zE ?_
     exact TX.round (⟨(i + 1, ((some ⟨g_Ao, 0, none⟩), co), m, out), by dsimp only; omega, hout.dup hx14 h16 hok hx26 (by exact q50), by dsimp only; omega, houtc, houtm, houtn⟩) (by show l.length - (i + 1) < l.length - i; omega) ⟨rfl, rfl, rfl, rfl, trivial⟩ (fun w1 hw => hw)
    refine TQ.val rfl rfl rfl (gives_pick rfl rfl rfl) ?_
    refine TQ.fin ?_
    refine zT (zd (zk (zT (zSG (TL.rn 3 rfl ?_)))))
    refine TL.val rfl rfl rfl (gA (i := i) Tryz.underlying23 prssz65 rfl rfl rfl rfl hA14 (by omega)) ?_
    refine TL.v (gR rs_cel prsag65 prssz65 hbb14 hx14 hc14) ?_
    refine TL.prowS (e := 65) (size := 17) (cs := flat Rs.cells [x14]) rfl rfl rfl rfl rfl (fun w => porbs23_1_99505 _ _ _ _ _ _ _ _ _ _ _ _ _ _ _ _ _ w) (by decide) rfl (fun g57 => ?_)
    refine TL.appendT (k := 1) rfl rfl rfl rfl Tryz.underlying23 porel23 rfl rfl rfl (fun w1 hw => pm_reads hw (k := 0) rfl) (flat_one rs_cel _) (by show _ * 128 ≤ _; omega) (m + 1) (rfl) (flat Rs.cells (out ++ [x14])) ((flat_app _ _).symm) (fun A58 c58 hA581 hA582 => ?_)
    refine TL.as_ ?_
    refine zET (zS ?_)
    have hn1 : (out ++ [x14]).length = out.length + 1 := by simp
    have hn2 : (shiftL (out ++ [x14]) k).length = out.length + 1 := by rw [shiftL_len _ _ (by omega), hn1]
    refine TC.fact (p := ∃ g, A58 = some ⟨g, 0, none⟩) (fun w1 hw => rowA hw (k := 1) rfl (by simp)) ?_
    rintro ⟨g_A58, rfl⟩
    refine TC.tail 7 (by kernel_rfl) (by kernel_rfl) (fun w hw => hw.drawn _) ?_
    refine TS.val rfl rfl rfl (gives_move rfl rfl) ?_
    refine TS.val rfl rfl rfl (gives_move rfl rfl) ?_
    refine TS.v (gD ((k + 1 : Nat) : Int)) ?_
    refine TS.val rfl rfl rfl (gives_sliceL (v := .slice (if c58 = k + 1 then some ⟨g_A58, 0, none⟩ else (some (⟨g_A58, 0, none⟩ : Addr)).map (·.add ((k + 1) * 17))) ((m + 1) - (k + 1)) (c58 - (k + 1))) rfl rfl rfl (fun w => cut_lo Tryz.underlying23 prssz65 _ _ _ (k + 1) rfl (by omega) w)) ?_
    refine TS.val rfl rfl rfl (gives_move rfl rfl) ?_
    refine TS.val rfl rfl rfl (gives_move rfl rfl) ?_
    refine TS.val rfl rfl rfl (gives_tailF (q := k) rfl rfl rfl rfl Tryz.underlying23 prssz65 (by omega) (by omega)) ?_
    refine TS.end_ ?_
    refine TL.shiftF rs_cel (kk := 1) (k := k) rfl rfl rfl rfl Tryz.underlying23 prssz65 rfl rfl rfl (by omega) (by omega) (by omega) ?_
    try dsimp only [List.set_cons_zero, List.set_cons_succ]
    refine zET (zG (TL.rn 4 rfl ?_))
    refine TL.val rfl rfl rfl (gA (i := i) Tryz.underlying23 prssz65 rfl rfl rfl rfl hA14 (by omega)) ?_
    refine TL.v (gR rs_cel prsag65 prssz65 hbb14 hx14 hc14) ?_
    have hi73 : k < (shiftL (out ++ [x14]) k).length := by omega
    obtain ⟨x73, hx73⟩ := ex_at hi73
    refine TL.val rfl rfl rfl (gA (i := k) Tryz.underlying23 prssz65 rfl rfl rfl rfl rfl (by omega)) ?_
    refine TL.rowset (k := 1) (vs := x14.cells) (xs' := flat Rs.cells ((shiftL (out ++ [x14]) k).set k x14)) rfl rfl rfl rfl rfl rfl rfl prssz65 (rs_cel.one _) (by rw [flat_len rs_cel]; show 0 + k * 17 + 17 ≤ _; omega) (flat_put rs_cel (q := 0) (y := x14) hx73 (by show 0 + 17 ≤ 17; decide) rfl) ?_
    try dsimp only [List.set_cons_zero, List.set_cons_succ]
    refine zE (zN (zT (zG (TL.mv ?_))))
    refine TL.v (gD ((i + 1 : Nat) : Int)) ?_
    refine TL.as_ ?_
    refine zE ?_
    exact TX.round (⟨(i + 1, ((some ⟨g_A58, 0, none⟩), c58), m + 1, (shiftL (out ++ [x14]) k).set k x14), by dsimp only; omega, by dsimp only; rw [shiftL_at _ _ _ _ (by omega)]; exact hout.put hx14 h16 (fun z hz => ascK_ahead keys_len hout.1 hx26 (by have := q33; have := q50; show cmpRs _ _ < 0; omega) z (by rwa [Nat.sub_add_cancel (by omega)])) hgt, by dsimp only; omega, hA581, hA582, by dsimp only; rw [List.length_set]; omega⟩) (by show l.length - (i + 1) < l.length - i; omega) ⟨rfl, rfl, rfl, rfl, trivial⟩ (fun w1 hw => hw.pick [1] (by decide) rfl)
  refine TL.val rfl rfl rfl (gives_boolnot rfl rfl) ?_
  refine zET (zc (zx (zX (zM (zT (zG (TL.mv ?_)))))))
  refine TL.v (gD ((i + 1 : Nat) : Int)) ?_
  refine TL.as_ ?_
  refine zE ?_
  exact TX.round (⟨(i + 1, (Ao, co), m, out), by dsimp only; omega, hout.skip hx14 h16, by dsimp only; omega, houtc, houtm, houtn⟩) (by show l.length - (i + 1) < l.length - i; omega) ⟨rfl, rfl, rfl, rfl, trivial⟩ (fun w1 hw => hw)
 have q9 := of_decide_eq_false h9
 refine zET (zd (zx (zX (zX (zM (zT (zSG (TL.rn 2 rfl (zET (zr ?_))))))))))
 subst houtn
 exact ret_tmp Tryz.results95 rfl (fun w1 hw => ⟨⟨((Ao, co), out), by rw [List.take_of_length_le (by omega)] at hout; exact hout, by dsimp only; omega, houtm⟩, rfl, hw.pick [0] (by decide) rfl⟩)
set_option maxRecDepth 20000
theorem mapf_snoc_t {α β : Type} {p : α → Bool} {f : α → β} {l : List α} {out : List β} {i : Nat} {x : α} (hx : l[i]? = some x) (h : p x = true) (ho : ((l.take i).filter p).map f = out) : ((l.take (i + 1)).filter p).map f = out ++ [f x] := by
 rw [List.take_add_one, hx, List.filter_append, List.map_append, ho]
 simp [h]
theorem mapf_snoc_f {α β : Type} {p : α → Bool} {f : α → β} {l : List α} {out : List β} {i : Nat} {x : α} (hx : l[i]? = some x) (h : p x = false) (ho : ((l.take i).filter p).map f = out) : ((l.take (i + 1)).filter p).map f = out := by
 rw [List.take_add_one, hx, List.filter_append, List.map_append, ho]
 simp [h]
def trk (t : Trc) : List Int := [t.v, t.dst, t.proto]
theorem trk_len (t : Trc) : (trk t).length = 3 := rfl
theorem trk_inj {x y : Trc} (h : trk x = trk y) : x = y := by
 obtain ⟨a, b, c⟩ := x
 obtain ⟨a', b', c'⟩ := y
 simp only [trk, List.cons.injEq, and_true] at h
 obtain ⟨h1, h2, h3⟩ := h
 subst h1 h2 h3
 rfl
def IsTrc (l : List Rs) (o : List Trc) : Prop := AscK trk o ∧ ∀ t, t ∈ o ↔ ∃ r ∈ l, vldRs r = true ∧ trcR r = t
theorem IsTrc.eq {l : List Rs} {o o' : List Trc} (h : IsTrc l o) (h' : IsTrc l o') : o = o' := ascK_eq trk_len h.1 h'.1 fun x => by rw [h.2, h'.2]
theorem isTrc_of {l : List Rs} {o s : List Trc} (ho : (l.filter vldRs).map trcR = o) (hs : Sorted cmpT o s) : IsTrc l (cptG s) := by
 refine ⟨cptG_asc trk_len s hs.2 fun x hx y hy h => trk_inj h, fun t => ?_⟩
 rw [mem_cptG, hs.1.mem_iff, ← ho, List.mem_map]
 constructor
 ·rintro ⟨r, hr, e⟩
  have := List.mem_filter.1 hr
  exact ⟨r, this.1, this.2, e⟩
 rintro ⟨r, h1, h2, e⟩
 exact ⟨r, List.mem_filter.2 ⟨h1, h2⟩, e⟩
def pairsT (a b : Trc) : List (Int × Int) := [(a.v, b.v), (IntKind.i64.wrap a.dst, IntKind.i64.wrap b.dst), (a.proto, b.proto)]
def rcmpT (a b : Trc) : Int := orP (pairsT a b)
theorem rcmpT_eq {a b : Trc} (h1 : 0 ≤ a.dst) (h2 : a.dst ≤ 4294967295) (h3 : 0 ≤ b.dst) (h4 : b.dst ≤ 4294967295) : rcmpT a b = lexI (trk a) (trk b) := by
 have w1 : ∀ z : Int, 0 ≤ z → z ≤ 4294967295 → IntKind.i64.wrap z = z := fun z h0 h1 => by simp only [IntKind.wrap_i64]; omega
 rw [rcmpT, pairsT, w1 _ h1 h2, w1 _ h3 h4]
 rfl
theorem IsTrc.nil : IsTrc [] [] := ⟨List.Pairwise.nil, fun x => by simp⟩
section
variable {l : List Rs} {o : List Trc} {i q : Nat} {x : Rs}
theorem IsTrc.skip (h : IsTrc (l.take i) o) (hx : l[i]? = some x) (hv : vldRs x = false) : IsTrc (l.take (i + 1)) o := ⟨h.1, fun t => by
 rw [h.2]
 constructor
 ·rintro ⟨r, h1, h2⟩
  exact ⟨r, (mem_take_snoc hx).2 (.inl h1), h2⟩
 rintro ⟨r, h1, h2, h3⟩
 rcases (mem_take_snoc hx).1 h1 with h4 | h4
 ·exact ⟨r, h4, h2, h3⟩
 rw [h4, hv] at h2; cases h2⟩
theorem IsTrc.dup (h : IsTrc (l.take i) o) (hx : l[i]? = some x) (hv : vldRs x = true) (hm : trcR x ∈ o) : IsTrc (l.take (i + 1)) o := ⟨h.1, fun t => by
 constructor
 ·intro ht
  obtain ⟨r, h1, h2⟩ := (h.2 t).1 ht
  exact ⟨r, (mem_take_snoc hx).2 (.inl h1), h2⟩
 rintro ⟨r, h1, h2, h3⟩
 rcases (mem_take_snoc hx).1 h1 with h4 | h4
 ·exact (h.2 t).2 ⟨r, h4, h2, h3⟩
 rw [← h3, h4]; exact hm⟩
theorem IsTrc.put (h : IsTrc (l.take i) o) (hx : l[i]? = some x) (hv : vldRs x = true) (h1 : ∀ y ∈ o.take q, lexI (trk y) (trk (trcR x)) < 0) (h2 : ∀ y ∈ o.drop q, lexI (trk (trcR x)) (trk y) < 0) : IsTrc (l.take (i + 1)) (o.take q ++ trcR x :: o.drop q) := by
 refine ⟨ascK_put trk_len h.1 h1 h2, fun t => ?_⟩
 rw [mem_put, h.2]
 constructor
 ·rintro (⟨r, h3, h4⟩ | hh)
  ·exact ⟨r, (mem_take_snoc hx).2 (.inl h3), h4⟩
  exact ⟨x, (mem_take_snoc hx).2 (.inr rfl), hv, hh.symm⟩
 rintro ⟨r, h3, h4, h5⟩
 rcases (mem_take_snoc hx).1 h3 with h6 | h6
 ·exact .inl ⟨r, h6, h4, h5⟩
 rw [h6] at h5; exact .inr h5.symm
theorem IsTrc.rng (h : IsTrc (l.take i) o) (hok : ∀ r ∈ l, r.Ok) {y : Trc} (hy : y ∈ o) : 0 ≤ y.dst ∧ y.dst ≤ 4294967295 := by
 obtain ⟨r, h1, _, h3⟩ := (h.2 y).1 hy
 have := hok r (List.mem_of_mem_take h1)
 rw [← h3]
 exact ⟨this.1, this.2.1⟩
theorem IsTrc.cmp (h : IsTrc (l.take i) o) (hx : l[i]? = some x) (hok : ∀ r ∈ l, r.Ok) {y : Trc} (hy : y ∈ o) : rcmpT y (trcR x) = lexI (trk y) (trk (trcR x)) := by
 have h1 := h.rng hok hy
 have h2 := hok x (List.mem_of_getElem? hx)
 exact rcmpT_eq h1.1 h1.2 h2.1 h2.2.1
theorem IsTrc.lt (h : IsTrc (l.take i) o) (hx : l[i]? = some x) (hok : ∀ r ∈ l, r.Ok) {y : Trc} (hy : y ∈ o) (hc : rcmpT y (trcR x) < 0) : lexI (trk y) (trk (trcR x)) < 0 := by rw [← h.cmp hx hok hy]; exact hc
end
theorem ptrbs128_1_44646 (a0_0 : Int) (a0_1 : Int) (a0_2 : Int) (w : World) : (Instr.buildSlice 128 1 #[(0, .agg #[.int .i64 a0_0, .int .u32 a0_1, .int .i64 a0_2])]).run Tryz.prog w = .ok (.slice (some ⟨w.heap.size, 0, none⟩) 1 1) (w.alloc (.cells [.int .i64 a0_0, .int .u32 a0_1, .int .i64 a0_2].toArray 32)) := by kernel_rfl
theorem ptrel128 : Elem Tryz.prog 128 32 3 24 := Elem.mk' Tryz.underlying128 (z := .agg #[.int .i64 0, .int .u32 0, .int .i64 0]) (by kernel_rfl) rfl (by omega) (by omega)
theorem trs_any (A0 : Option Addr) (c0 : Nat) (l : List Rs) (w : World) (hr : Reads w w.heap.size 17 A0 l.length (flat Rs.cells l)) (hl1 : l.length ≤ 100000) :
  Calls Tryz.prog 89 #[.slice A0 l.length c0] w fun e w' => ∃ x : {y : (Option Addr × Nat) × List Trc // IsTrc l y.2 ∧ y.2.length ≤ y.1.2 ∧ y.1.2 ≤ maxLen}, e = .returned (.slice x.1.1.1 x.1.2.length x.1.1.2) ∧ Pm w [.row (.slice x.1.1.1 x.1.2.length x.1.1.2) 32 3 x.1.2.length (flat Trc.cells x.1.2)] w' := by
 refine begin_ (vs := [.slice A0 l.length c0]) Tryz.func89 rfl rfl rfl ?_ (Pm.start w)
 refine zSG (TL.as_ ?_)
 refine zET (zSG (TL.as_ ?_))
 refine zET (zS (zSG (TL.mv ?_)))
 refine TL.v (gN Tryz.underlying23) ?_
 refine TL.mv ?_
 refine zET (zB (TC.nilrow 32 3 ?_))
 refine TC.loop_ (α := {y : Nat × (Option Addr × Nat) × List Trc // y.1 ≤ l.length ∧ (((l.take y.1).filter vldRs).map trcR = y.2.2) ∧ y.2.2.length ≤ y.1 ∧ y.2.2.length ≤ y.2.1.2 ∧ y.2.1.2 ≤ maxLen}) (fun y => [(2, .slice none 0 0), (6, .slice A0 l.length c0), (7, .int .i64 (l.length : Nat)), (8, .int .i64 ((y.1.1 : Nat) : Int)), (3, .slice y.1.2.1.1 y.1.2.2.length y.1.2.1.2)]) (fun y => Pm w [.row (.slice y.1.2.1.1 y.1.2.2.length y.1.2.1.2) 32 3 y.1.2.2.length (flat Trc.cells y.1.2.2)]) (fun y => l.length - y.1.1) (⟨(0, (none, 0), []), Nat.zero_le _, rfl, Nat.le_refl _, Nat.le_refl _, Nat.zero_le _⟩) ⟨rfl, rfl, rfl, rfl, rfl, trivial⟩ (fun w1 hw => hw) ?_
 rintro ⟨⟨i, ⟨Ao, co⟩, out⟩, hi, hout, houtl, houtc, houtm⟩
 dsimp only at hi hout houtl houtc houtm ⊢
 refine zSG ?_
 refine TL.vsplit rfl rfl rfl (gives_bin rfl rfl rfl (fun w => bin_lss w)) (fun h9 => ?_) (fun h9 => ?_)
 ·have q9 := of_decide_eq_true h9
  refine zET (zS (zc (zk (zT (zS (zB (zSG ?_)))))))
  have hi10 : i < l.length := by omega
  obtain ⟨x10, hx10⟩ := ex_at hi10
  obtain ⟨b10, o10, hA10, hbb10, hc10⟩ := hr.ad (by omega) (by decide)
  refine TL.val rfl rfl rfl (gA (i := i) Tryz.underlying23 prssz65 rfl rfl rfl rfl hA10 (by omega)) ?_
  refine TL.v (gR rs_cel prsag65 prssz65 hbb10 hx10 hc10) ?_
  refine TL.pnew rfl rfl rfl (exec_alloc (cs := [.int .i64 0, .int .i64 0, .int .i64 0, .int .i64 0, .int .u32 0, .int .i64 0, .int .i64 0, .int .i64 0, .bool false, .bool false, .int .i64 0, .int .u32 0, .int .i64 0, .int .i64 0, .int .i64 0, .int .i64 0, .int .i64 0]) rfl arpzv65 rfl) (fun g5 => ?_)
  refine TL.pstore (k := 0) (vs := x10.cells) rfl rfl rfl rfl rfl rfl rfl prssz65 (rs_cel.one _) (by show 17 ≤ 17; decide) (L' := [.blk g5 65 x10.cells, .row (.slice Ao out.length co) 32 3 out.length (flat Trc.cells out)]) rfl ?_
  refine zET (zSG (TL.v (gV 0 (.agg (x10.cells).toArray) prsag65 prssz65) ?_))
  refine TL.callsplit rfl rfl rfl rfl rfl Tryz.func70 (by decide) rfl (fun w1 hw => vldRs_any x10 w1) (fun h13 => ?_) (fun h13 => ?_)
  ·refine zET (zc (zG (TL.mv ?_)))
   refine TL.v (gV 0 (.agg (x10.cells).toArray) prsag65 prssz65) ?_
   refine TL.pcall1 (r := .agg ((trcR x10).cells).toArray) rfl rfl rfl rfl rfl Tryz.func135 (by decide) rfl (fun w1 hw => trc_any x10 w1) ?_
   refine TL.prowS (e := 32) (size := 3) (cs := flat Trc.cells [trcR x10]) rfl rfl rfl rfl rfl (fun w => ptrbs128_1_44646 _ _ _ w) (by decide) rfl (fun g17 => ?_)
   refine TL.appendT (k := 2) rfl rfl rfl rfl Tryz.underlying128 ptrel128 rfl rfl rfl (fun w1 hw => pm_reads hw (k := 0) rfl) (flat_one trc_cel _) (by show _ * 24 ≤ _; omega) ((out ++ [trcR x10]).length) (by rw [List.length_append]; rfl) (flat Trc.cells (out ++ [trcR x10])) ((flat_app _ _).symm) (fun A18 c18 hA181 hA182 => ?_)
   refine TL.as_ ?_
   refine zE (zN (zT (zG (TL.v (gD ((i + 1 : Nat) : Int)) ?_))))
   refine TL.mv ?_
   refine zE ?_
   exact TX.round (⟨(i + 1, (A18, c18), out ++ [trcR x10]), by dsimp only; omega, mapf_snoc_t hx10 h13 hout, by dsimp only; rw [List.length_append]; show out.length + 1 ≤ _; omega, hA181, hA182⟩) (by show l.length - (i + 1) < l.length - i; omega) ⟨rfl, rfl, rfl, rfl, rfl, trivial⟩ (fun w1 hw => hw.pick [2] (by decide) rfl)
  refine zET (zd (zk (zN (zT (zG (TL.v (gD ((i + 1 : Nat) : Int)) ?_))))))
  refine TL.mv ?_
  refine zE ?_
  exact TX.round (⟨(i + 1, (Ao, co), out), by dsimp only; omega, mapf_snoc_f hx10 h13 hout, by dsimp only; omega, houtc, houtm⟩) (by show l.length - (i + 1) < l.length - i; omega) ⟨rfl, rfl, rfl, rfl, rfl, trivial⟩ (fun w1 hw => hw.pick [1] (by decide) rfl)
 have q9 := of_decide_eq_false h9
 refine zET (zS (zd (zx (zX (zX (zM (zT (zSG (TL.mv ?_)))))))))
 refine TL.turnRowD (k := 0) (fun ys => Sorted cmpT out ys) rfl rfl rfl rfl rfl Tryz.func136 (by decide) rfl rfl (fun w1 hw hr9 => sortTrc hr9 (rfl) (by omega)) (fun srt21 hS21 => ?_)
 try dsimp only [List.set_cons_zero, List.set_cons_succ]
 refine zET (zSG (TL.mv ?_))
 refine TL.turnRow2 (q := 0) (ys := cptG srt21) rfl rfl rfl rfl rfl Tryz.func138 (by decide) rfl rfl (fun w1 hw hr9 => compactTrc hr9 (hS21.1.length_eq) (by omega)) ?_
 try dsimp only [List.set_cons_zero, List.set_cons_succ]
 refine TL.as_ ?_
 refine zET (zr ?_)
 have hle : (cptG srt21).length ≤ out.length := Nat.le_trans (cptG_le _) (Nat.le_of_eq hS21.1.length_eq)
 exact ret_tmp Tryz.results89 rfl (fun w1 hw => ⟨⟨((Ao, co), cptG srt21), isTrc_of (by rw [List.take_of_length_le (by omega)] at hout; exact hout) hS21, by dsimp only; omega, houtm⟩, rfl, hw.pick [0] (by decide) rfl⟩)
set_option maxRecDepth 20000
theorem nodup_len {α : Type} [DecidableEq α] : ∀ {p F : List α}, p.Nodup → (∀ f ∈ p, f ∈ F) → p.length ≤ F.length
 | [], _, _, _ => Nat.zero_le _
 | a :: p, F, h, hs => by
  obtain ⟨h1, h2⟩ := List.nodup_cons.1 h
  have := nodup_len (F := F.erase a) h2 fun f hf => (List.mem_erase_of_ne (fun e => h1 (by rw [← e]; exact hf))).2 (hs f (List.mem_cons_of_mem _ hf))
  rw [List.length_erase_of_mem (hs a List.mem_cons_self)] at this
  have h3 : 0 < F.length := List.length_pos_of_mem (hs a List.mem_cons_self)
  rw [List.length_cons]
  omega
def IsOf (l : List Rs) (t : Trc) (y : List Rs) : Prop := ∃ o, IsOrd l o ∧ y = o.filter fun r => decide (trcR r = t)
theorem IsOf.eq {l y y' : List Rs} {t : Trc} (h : IsOf l t y) (h' : IsOf l t y') : y = y' := by
 obtain ⟨o, h1, h2⟩ := h
 obtain ⟨o', h3, h4⟩ := h'
 rw [h2, h4, h1.eq h3]
theorem IsOrd.le {l o : List Rs} (h : IsOrd l o) : o.length ≤ l.length := by
 have hn : o.Nodup := h.1.imp fun {a b} hab e => by subst e; exact ltK_irrefl _ hab
 exact nodup_len hn fun x hx => ((h.2 x).1 hx).1
theorem of_any (A0 : Option Addr) (c0 : Nat) (l : List Rs) (t : Trc) (w : World) (hr : Reads w w.heap.size 17 A0 l.length (flat Rs.cells l)) (hl1 : l.length ≤ 100000) (hok : ∀ r ∈ l, r.Ok) :
  Calls Tryz.prog 90 #[.slice A0 l.length c0, .agg t.cells.toArray] w fun e w' => ∃ x : {y : (Option Addr × Nat) × List Rs // IsOf l t y.2 ∧ y.2.length ≤ y.1.2 ∧ y.1.2 ≤ maxLen}, e = .returned (.slice x.1.1.1 x.1.2.length x.1.1.2) ∧ Pm w [.row (.slice x.1.1.1 x.1.2.length x.1.1.2) 65 17 x.1.2.length (flat Rs.cells x.1.2)] w' := by
 refine begin_ (vs := [.slice A0 l.length c0, .agg t.cells.toArray]) Tryz.func90 rfl rfl rfl ?_ (Pm.start w)
 refine zSG ?_
 refine TL.pnew rfl rfl rfl (exec_box (cs := t.cells) rfl rfl rfl) (fun g3 => ?_)
 refine TL.as_ ?_
 refine zET (zSG (TL.as_ ?_))
 refine zET (zS (zSG (TL.mv ?_)))
 refine TL.pcallPm (α := {y : (Option Addr × Nat) × List Rs // IsOrd l y.2 ∧ y.2.length ≤ y.1.2 ∧ y.1.2 ≤ maxLen}) (fun x => .slice x.1.1.1 x.1.2.length x.1.1.2) (fun x => [.row (.slice x.1.1.1 x.1.2.length x.1.1.2) 65 17 x.1.2.length (flat Rs.cells x.1.2)]) rfl rfl rfl rfl rfl Tryz.func88 (by decide) rfl (fun w1 hw => ord_any A0 c0 l w1 (hr.up hw.bel) hl1 hok) ?_
 rintro ⟨⟨⟨R9, rc9⟩, o9⟩, hP9, hR91, hR92⟩
 dsimp only [List.cons_append, List.nil_append]
 dsimp only at hP9 hR91 hR92 ⊢
 refine TL.v (gN Tryz.underlying23) ?_
 refine TL.mv ?_
 refine zET (zB (TC.nilrow 65 17 ?_))
 have hol := hP9.le
 refine TC.loop_ (α := {y : Nat × (Option Addr × Nat) × List Rs // y.1 ≤ o9.length ∧ ((o9.take y.1).filter (fun r => decide (trcR r = t)) = y.2.2) ∧ y.2.2.length ≤ y.1 ∧ y.2.2.length ≤ y.2.1.2 ∧ y.2.1.2 ≤ maxLen}) (fun y => [(3, .pointer (some ⟨g3, 0, none⟩)), (9, .slice R9 o9.length rc9), (10, .int .i64 (o9.length : Nat)), (11, .int .i64 ((y.1.1 : Nat) : Int)), (5, .slice y.1.2.1.1 y.1.2.2.length y.1.2.1.2)]) (fun y => Pm w [.row (.slice y.1.2.1.1 y.1.2.2.length y.1.2.1.2) 65 17 y.1.2.2.length (flat Rs.cells y.1.2.2), .row (.slice R9 o9.length rc9) 65 17 o9.length (flat Rs.cells o9), .blk g3 32 t.cells]) (fun y => o9.length - y.1.1) (⟨(0, (none, 0), []), Nat.zero_le _, rfl, Nat.le_refl _, Nat.le_refl _, Nat.zero_le _⟩) ⟨rfl, rfl, rfl, rfl, rfl, trivial⟩ (fun w1 hw => hw) ?_
 rintro ⟨⟨i, ⟨Ao, co⟩, out⟩, hi, hout, houtl, houtc, houtm⟩
 dsimp only at hi hout houtl houtc houtm ⊢
 refine zSG ?_
 refine TL.sp bin_lss (fun q12 => ?_) (fun q12 => ?_)
 ·refine zET (zS (zc (zk (zT (zS (zB (zSG ?_)))))))
  refine TL.fact (p := ∃ g, R9 = some ⟨g, 0, none⟩) (fun w1 hw => rowA hw (k := 1) rfl (by omega)) ?_
  rintro ⟨g_R9, rfl⟩
  have hi13 : i < o9.length := by omega
  obtain ⟨x13, hx13⟩ := ex_at hi13
  refine TL.val rfl rfl rfl (gA (i := i) Tryz.underlying23 prssz65 rfl rfl rfl rfl rfl (by omega)) ?_
  refine TL.val rfl rfl rfl (gives_loadR (off := 0 + i * 17) rfl rfl prsag65 prssz65 (rs_cel.len x13) (fun w1 hw j9 u9 h9 => flat_row rs_cel hw (q := 1) rfl hx13 j9 u9 h9)) ?_
  refine TL.pnew rfl rfl rfl (exec_alloc (cs := [.int .i64 0, .int .i64 0, .int .i64 0, .int .i64 0, .int .u32 0, .int .i64 0, .int .i64 0, .int .i64 0, .bool false, .bool false, .int .i64 0, .int .u32 0, .int .i64 0, .int .i64 0, .int .i64 0, .int .i64 0, .int .i64 0]) rfl arpzv65 rfl) (fun g7 => ?_)
  refine TL.pstore (k := 0) (vs := x13.cells) rfl rfl rfl rfl rfl rfl rfl prssz65 (rs_cel.one _) (by show 17 ≤ 17; decide) (L' := [.blk g7 65 x13.cells, .row (.slice Ao out.length co) 65 17 out.length (flat Rs.cells out), .row (.slice (some ⟨g_R9, 0, none⟩) o9.length rc9) 65 17 o9.length (flat Rs.cells o9), .blk g3 32 t.cells]) rfl ?_
  refine zET (zS (TC.quietQ (by kernel_rfl) (by kernel_rfl) (fun w hw => hw.drawn _) ?_))
  refine TQ.v (gV 0 (.agg (x13.cells).toArray) prsag65 prssz65) ?_
  refine TQ.call (v := .agg ((trcR x13).cells).toArray) rfl rfl rfl rfl rfl Tryz.func135 (by decide) rfl (fun w1 hw => (trc_any x13 w1).mono fun en w2 ⟨h1, h2⟩ => ⟨h1, hw.below h2⟩) ?_
  refine TQ.v (gV 3 (.agg (t.cells).toArray) pcpag32 prssz32) ?_
  refine TQ.vsplit rfl rfl rfl (gives_bin2 rfl rfl rfl (fun w => trc_eql (trcR x13) t _ _ w)) (fun h18 => ?_) (fun h18 => ?_)
  ·have q18 := of_decide_eq_true h18
   refine TQ.fin ?_
   refine zT (zc (zG (TL.mv ?_)))
   refine TL.v (gV 0 (.agg (x13.cells).toArray) prsag65 prssz65) ?_
   refine TL.prowS (e := 65) (size := 17) (cs := flat Rs.cells [x13]) rfl rfl rfl rfl rfl (fun w => porbs23_1_99505 _ _ _ _ _ _ _ _ _ _ _ _ _ _ _ _ _ w) (by decide) rfl (fun g21 => ?_)
   refine TL.appendT (k := 2) rfl rfl rfl rfl Tryz.underlying23 porel23 rfl rfl rfl (fun w1 hw => pm_reads hw (k := 0) rfl) (flat_one rs_cel _) (by show _ * 128 ≤ _; omega) ((out ++ [x13]).length) (by rw [List.length_append]; rfl) (flat Rs.cells (out ++ [x13])) ((flat_app _ _).symm) (fun A22 c22 hA221 hA222 => ?_)
   refine TL.as_ ?_
   refine zE (zN (zT (zG (TL.v (gD ((i + 1 : Nat) : Int)) ?_))))
   refine TL.mv ?_
   refine zE ?_
   exact TX.round (⟨(i + 1, (A22, c22), out ++ [x13]), by dsimp only; omega, filt_snoc_t (p := fun r => decide (trcR r = t)) hx13 (decide_eq_true q18) hout, by dsimp only; rw [List.length_append]; show out.length + 1 ≤ _; omega, hA221, hA222⟩) (by show o9.length - (i + 1) < o9.length - i; omega) ⟨rfl, rfl, rfl, rfl, rfl, trivial⟩ (fun w1 hw => hw.pick [2, 3, 4] (by decide) rfl)
  have q18 := of_decide_eq_false h18
  refine TQ.fin ?_
  refine zT (zd (zk (zN (zT (zG (TL.v (gD ((i + 1 : Nat) : Int)) ?_))))))
  refine TL.mv ?_
  refine zE ?_
  exact TX.round (⟨(i + 1, (Ao, co), out), by dsimp only; omega, filt_snoc_f (p := fun r => decide (trcR r = t)) hx13 (decide_eq_false q18) hout, by dsimp only; omega, houtc, houtm⟩) (by show o9.length - (i + 1) < o9.length - i; omega) ⟨rfl, rfl, rfl, rfl, rfl, trivial⟩ (fun w1 hw => hw.pick [1, 2, 3] (by decide) rfl)
 refine zET (zS (zd (zx (zX (zX (zM (zT (zSG (TL.rn 2 rfl (zET (zr ?_)))))))))))
 exact ret_tmp Tryz.results90 rfl (fun w1 hw => ⟨⟨((Ao, co), out), ⟨o9, hP9, by rw [List.take_of_length_le (by omega)] at hout; exact hout.symm⟩, by dsimp only; omega, houtm⟩, rfl, hw.pick [0] (by decide) rfl⟩)
theorem rof_any (A0 : Option Addr) (c0 : Nat) (l : List Rs) (t : Trc) (w : World) (hr : Reads w w.heap.size 17 A0 l.length (flat Rs.cells l)) (hl1 : l.length ≤ 100000) (hok : ∀ r ∈ l, r.Ok) :
  Calls Tryz.prog 60 #[.slice A0 l.length c0, .agg t.cells.toArray] w fun e w' => ∃ x : {y : (Option Addr × Nat) × List Rs // IsOf l t y.2 ∧ y.2.length ≤ y.1.2 ∧ y.1.2 ≤ maxLen}, e = .returned (.slice x.1.1.1 x.1.2.length x.1.1.2) ∧ Pm w [.row (.slice x.1.1.1 x.1.2.length x.1.1.2) 65 17 x.1.2.length (flat Rs.cells x.1.2)] w' := by
 refine begin_ (vs := [.slice A0 l.length c0, .agg t.cells.toArray]) Tryz.func60 rfl rfl rfl ?_ (Pm.start w)
 refine zSG ?_
 refine TL.pnew rfl rfl rfl (exec_box (cs := t.cells) rfl rfl rfl) (fun g3 => ?_)
 refine TL.as_ ?_
 refine zET (zSG (TL.mv ?_))
 refine TL.pcallPm (α := {y : (Option Addr × Nat) × List Rs // IsOrd l y.2 ∧ y.2.length ≤ y.1.2 ∧ y.1.2 ≤ maxLen}) (fun x => .slice x.1.1.1 x.1.2.length x.1.1.2) (fun x => [.row (.slice x.1.1.1 x.1.2.length x.1.1.2) 65 17 x.1.2.length (flat Rs.cells x.1.2)]) rfl rfl rfl rfl rfl Tryz.func95 (by decide) rfl (fun w1 hw => rord_any A0 c0 l w1 (hr.up hw.bel) hl1 hok) ?_
 rintro ⟨⟨⟨R9, rc9⟩, o9⟩, hP9, hR91, hR92⟩
 dsimp only [List.cons_append, List.nil_append]
 dsimp only at hP9 hR91 hR92 ⊢
 refine TL.as_ ?_
 refine zET (zSG (TL.as_ ?_))
 refine zET (zS (zSG (TL.as_ ?_)))
 refine zET (zB (TC.nilrow 65 17 ?_))
 have hol := hP9.le
 refine TC.loop_ (α := {y : Nat × (Option Addr × Nat) × List Rs // y.1 ≤ o9.length ∧ ((o9.take y.1).filter (fun r => decide (trcR r = t)) = y.2.2) ∧ y.2.2.length ≤ y.1 ∧ y.2.2.length ≤ y.2.1.2 ∧ y.2.1.2 ≤ maxLen}) (fun y => [(3, .pointer (some ⟨g3, 0, none⟩)), (5, .slice R9 o9.length rc9), (7, .int .i64 ((y.1.1 : Nat) : Int)), (6, .slice y.1.2.1.1 y.1.2.2.length y.1.2.1.2)]) (fun y => Pm w [.row (.slice y.1.2.1.1 y.1.2.2.length y.1.2.1.2) 65 17 y.1.2.2.length (flat Rs.cells y.1.2.2), .row (.slice R9 o9.length rc9) 65 17 o9.length (flat Rs.cells o9), .blk g3 32 t.cells]) (fun y => o9.length - y.1.1) (⟨(0, (none, 0), []), Nat.zero_le _, rfl, Nat.le_refl _, Nat.le_refl _, Nat.zero_le _⟩) ⟨rfl, rfl, rfl, rfl, trivial⟩ (fun w1 hw => hw) ?_
 rintro ⟨⟨i, ⟨Ao, co⟩, out⟩, hi, hout, houtl, houtc, houtm⟩
 dsimp only at hi hout houtl houtc houtm ⊢
 refine zS (zSG (TL.rn 2 rfl (TL.v (gN Tryz.underlying23) ?_)))
 refine TL.sp bin_lss (fun q13 => ?_) (fun q13 => ?_)
 ·refine zET (zc (zk (zT (zS (zB (zS (TC.fact (p := ∃ g, R9 = some ⟨g, 0, none⟩) (fun w1 hw => rowA hw (k := 1) rfl (by omega)) ?_)))))))
  rintro ⟨g_R9, rfl⟩
  refine TC.quietQ (by kernel_rfl) (by kernel_rfl) (fun w hw => hw.drawn _) ?_
  refine TQ.rn 2 rfl ?_
  have hi18 : i < o9.length := by omega
  obtain ⟨x18, hx18⟩ := ex_at hi18
  refine TQ.val rfl rfl rfl (gA (i := i) Tryz.underlying23 prssz65 rfl rfl rfl rfl rfl (by omega)) ?_
  refine TQ.val rfl rfl rfl (gives_loadR (off := 0 + i * 17) rfl rfl prsag65 prssz65 (rs_cel.len x18) (fun w1 hw j9 u9 h9 => flat_row rs_cel hw (q := 1) rfl hx18 j9 u9 h9)) ?_
  refine TQ.call (v := .agg ((trcR x18).cells).toArray) rfl rfl rfl rfl rfl Tryz.func69 (by decide) rfl (fun w1 hw => (rtrc_any x18 w1).mono fun en w2 ⟨h1, h2⟩ => ⟨h1, hw.below h2⟩) ?_
  refine TQ.v (gV 2 (.agg (t.cells).toArray) pcpag32 prssz32) ?_
  refine TQ.vsplit rfl rfl rfl (gives_bin2 rfl rfl rfl (fun w => trc_eql (trcR x18) t _ _ w)) (fun h22 => ?_) (fun h22 => ?_)
  ·have q22 := of_decide_eq_true h22
   refine TQ.fin ?_
   refine zT (zc (zG (TL.rn 3 rfl ?_)))
   refine TL.val rfl rfl rfl (gA (i := i) Tryz.underlying23 prssz65 rfl rfl rfl rfl rfl (by omega)) ?_
   refine TL.val rfl rfl rfl (gives_loadR (off := 0 + i * 17) rfl rfl prsag65 prssz65 (rs_cel.len x18) (fun w1 hw j9 u9 h9 => flat_row rs_cel hw (q := 1) rfl hx18 j9 u9 h9)) ?_
   refine TL.prowS (e := 65) (size := 17) (cs := flat Rs.cells [x18]) rfl rfl rfl rfl rfl (fun w => porbs23_1_99505 _ _ _ _ _ _ _ _ _ _ _ _ _ _ _ _ _ w) (by decide) rfl (fun g28 => ?_)
   refine TL.appendT (k := 1) rfl rfl rfl rfl Tryz.underlying23 porel23 rfl rfl rfl (fun w1 hw => pm_reads hw (k := 0) rfl) (flat_one rs_cel _) (by show _ * 128 ≤ _; omega) ((out ++ [x18]).length) (by rw [List.length_append]; rfl) (flat Rs.cells (out ++ [x18])) ((flat_app _ _).symm) (fun A29 c29 hA291 hA292 => ?_)
   refine TL.as_ ?_
   refine zE (zN (zT (zG (TL.mv ?_))))
   refine TL.v (gD ((i + 1 : Nat) : Int)) ?_
   refine TL.as_ ?_
   refine zE ?_
   exact TX.round (⟨(i + 1, (A29, c29), out ++ [x18]), by dsimp only; omega, filt_snoc_t (p := fun r => decide (trcR r = t)) hx18 (decide_eq_true q22) hout, by dsimp only; rw [List.length_append]; show out.length + 1 ≤ _; omega, hA291, hA292⟩) (by show o9.length - (i + 1) < o9.length - i; omega) ⟨rfl, rfl, rfl, rfl, trivial⟩ (fun w1 hw => hw.pick [1, 2, 3] (by decide) rfl)
  have q22 := of_decide_eq_false h22
  refine TQ.fin ?_
  refine zT (zd (zk (zN (zT (zG (TL.mv ?_))))))
  refine TL.v (gD ((i + 1 : Nat) : Int)) ?_
  refine TL.as_ ?_
  refine zE ?_
  exact TX.round (⟨(i + 1, (Ao, co), out), by dsimp only; omega, filt_snoc_f (p := fun r => decide (trcR r = t)) hx18 (decide_eq_false q22) hout, by dsimp only; omega, houtc, houtm⟩) (by show o9.length - (i + 1) < o9.length - i; omega) ⟨rfl, rfl, rfl, rfl, trivial⟩ (fun w1 hw => hw)
 refine zET (zd (zx (zX (zX (zM (zT (zSG (TL.rn 2 rfl (zET (zr ?_))))))))))
 exact ret_tmp Tryz.results60 rfl (fun w1 hw => ⟨⟨((Ao, co), out), ⟨o9, hP9, by rw [List.take_of_length_le (by omega)] at hout; exact hout.symm⟩, by dsimp only; omega, houtm⟩, rfl, hw.pick [0] (by decide) rfl⟩)
set_option maxRecDepth 20000
def IsSt (l : List Rs) (t : Trc) (flow : Int) (y : List Rs) : Prop := ∃ x, IsOf l t x ∧ y = x.filter fun r => usbRs r && decide (r.flow = flow)
theorem IsSt.eq {l y y' : List Rs} {t : Trc} {flow : Int} (h : IsSt l t flow y) (h' : IsSt l t flow y') : y = y' := by
 obtain ⟨x, h1, h2⟩ := h
 obtain ⟨x', h3, h4⟩ := h'
 rw [h2, h4, h1.eq h3]
theorem IsOf.le_ {l y : List Rs} {t : Trc} (h : IsOf l t y) : y.length ≤ l.length := by
 obtain ⟨o, h1, rfl⟩ := h
 exact Nat.le_trans (List.length_filter_le _ _) h1.le
theorem IsSt.le {l y : List Rs} {t : Trc} {flow : Int} (h : IsSt l t flow y) : y.length ≤ l.length := by
 obtain ⟨x, h1, rfl⟩ := h
 exact Nat.le_trans (List.length_filter_le _ _) h1.le_
def Rp.trc (p : Rp) : Trc := ⟨p.v, p.dst, p.proto⟩
def atL (l : List Rs) (ttl : Int) : List Rs := l.filter fun r => r.ans && decide (r.ttl = ttl)
def fitB (t e : Int) (r : Rs) : Bool := finRs r && decide (r.back ≤ t) && (decide (e = 0) || decide (r.ttl < e))
def bend (l : List Rs) (t : Int) : Int := l.foldl (fun e r => if fitB t e r then r.ttl else e) 0
theorem bend_snoc {l : List Rs} {t e : Int} {i : Nat} {x : Rs} (hx : l[i]? = some x) (h : bend (l.take i) t = e) : bend (l.take (i + 1)) t = if fitB t e x then x.ttl else e := by
 unfold bend at h ⊢
 rw [List.take_add_one, hx, List.foldl_append, h]; rfl
def lostR (e t : Int) (r : Rs) : Bool := !r.ans && decide (r.ttl ≥ e) && decide (r.at_ ≥ t)
def lostN (e t : Int) (l : List Rs) : Nat := (l.filter (lostR e t)).length
theorem lost_t {l : List Rs} {e t : Int} {i c : Nat} {x : Rs} (hx : l[i]? = some x) (hp : lostR e t x = true) (h : lostN e t (l.take i) = c) : lostN e t (l.take (i + 1)) = c + 1 := by
 unfold lostN at h ⊢
 rw [List.take_add_one, hx, List.filter_append, List.length_append, h]
 simp [hp]
theorem lost_f {l : List Rs} {e t : Int} {i c : Nat} {x : Rs} (hx : l[i]? = some x) (hp : lostR e t x = false) (h : lostN e t (l.take i) = c) : lostN e t (l.take (i + 1)) = c := by
 unfold lostN at h ⊢
 rw [List.take_add_one, hx, List.filter_append, List.length_append, h]
 simp [hp]
def bhF (l : List Rs) (losses t : Int) : Bool := decide (0 < bend l t) && decide (losses ≤ (lostN (bend l t) t l : Int))
theorem atl_any (A0 : Option Addr) (c0 : Nat) (l : List Rs) (ttl : Int) (w : World) (hr : Reads w w.heap.size 17 A0 l.length (flat Rs.cells l)) (hl1 : l.length ≤ 100000) :
  Calls Tryz.prog 77 #[.slice A0 l.length c0, .int .i64 ttl] w fun e w' => ∃ x : {y : (Option Addr × Nat) × List Rs // y.2 = atL l ttl ∧ y.2.length ≤ y.1.2 ∧ y.1.2 ≤ maxLen}, e = .returned (.slice x.1.1.1 x.1.2.length x.1.1.2) ∧ Pm w [.row (.slice x.1.1.1 x.1.2.length x.1.1.2) 65 17 x.1.2.length (flat Rs.cells x.1.2)] w' := by
 refine begin_ (vs := [.slice A0 l.length c0, .int .i64 ttl]) Tryz.func77 rfl rfl rfl ?_ (Pm.start w)
 refine zSG (TL.as_ ?_)
 refine zET (zSG (TL.as_ ?_))
 refine zET (zS (zSG (TL.mv ?_)))
 refine TL.v (gN Tryz.underlying23) ?_
 refine TL.mv ?_
 refine zET (zB (TC.nilrow 65 17 ?_))
 refine TC.loop_ (α := {y : Nat × (Option Addr × Nat) × List Rs // y.1 ≤ l.length ∧ ((l.take y.1).filter (fun r : Rs => r.ans && decide (r.ttl = ttl)) = y.2.2) ∧ y.2.2.length ≤ y.1 ∧ y.2.2.length ≤ y.2.1.2 ∧ y.2.1.2 ≤ maxLen}) (fun y => [(1, .int .i64 ttl), (8, .slice A0 l.length c0), (9, .int .i64 (l.length : Nat)), (10, .int .i64 ((y.1.1 : Nat) : Int)), (5, .slice y.1.2.1.1 y.1.2.2.length y.1.2.1.2)]) (fun y => Pm w [.row (.slice y.1.2.1.1 y.1.2.2.length y.1.2.1.2) 65 17 y.1.2.2.length (flat Rs.cells y.1.2.2)]) (fun y => l.length - y.1.1) (⟨(0, (none, 0), []), Nat.zero_le _, rfl, Nat.le_refl _, Nat.le_refl _, Nat.zero_le _⟩) ⟨rfl, rfl, rfl, rfl, rfl, trivial⟩ (fun w1 hw => hw) ?_
 rintro ⟨⟨i, ⟨Ao, co⟩, out⟩, hi, hout, houtl, houtc, houtm⟩
 dsimp only at hi hout houtl houtc houtm ⊢
 refine zSG ?_
 refine TL.sp bin_lss (fun q11 => ?_) (fun q11 => ?_)
 ·refine zET (zS (zc (zk (zT (zS (zB (zSG ?_)))))))
  have hi12 : i < l.length := by omega
  obtain ⟨x12, hx12⟩ := ex_at hi12
  obtain ⟨b12, o12, hA12, hbb12, hc12⟩ := hr.ad (by omega) (by decide)
  refine TL.val rfl rfl rfl (gA (i := i) Tryz.underlying23 prssz65 rfl rfl rfl rfl hA12 (by omega)) ?_
  refine TL.v (gR rs_cel prsag65 prssz65 hbb12 hx12 hc12) ?_
  refine TL.pnew rfl rfl rfl (exec_alloc (cs := [.int .i64 0, .int .i64 0, .int .i64 0, .int .i64 0, .int .u32 0, .int .i64 0, .int .i64 0, .int .i64 0, .bool false, .bool false, .int .i64 0, .int .u32 0, .int .i64 0, .int .i64 0, .int .i64 0, .int .i64 0, .int .i64 0]) rfl arpzv65 rfl) (fun g7 => ?_)
  refine TL.pstore (k := 0) (vs := x12.cells) rfl rfl rfl rfl rfl rfl rfl prssz65 (rs_cel.one _) (by show 17 ≤ 17; decide) (L' := [.blk g7 65 x12.cells, .row (.slice Ao out.length co) 65 17 out.length (flat Rs.cells out)]) rfl ?_
  refine zET (zSG (TL.v (gF prsfld65_8) ?_))
  refine TL.vsplit rfl rfl rfl (gL 0 prsag4) (fun h15 => ?_) (fun h15 => ?_)
  ·refine TL.mv ?_
   refine TL.ov (gF prsfld65_7) ?_
   refine TL.ov (gL 0 pcmag3) ?_
   refine TL.rn 1 rfl (TL.gu ?_)
   refine TL.sp bin_eql (fun q20 => ?_) (fun q20 => ?_)
   ·refine TL.pk ?_
    refine zET (zc (zG (TL.mv ?_)))
    refine TL.v (gV 0 (.agg (x12.cells).toArray) prsag65 prssz65) ?_
    refine TL.prowS (e := 65) (size := 17) (cs := flat Rs.cells [x12]) rfl rfl rfl rfl rfl (fun w => porbs23_1_99505 _ _ _ _ _ _ _ _ _ _ _ _ _ _ _ _ _ w) (by decide) rfl (fun g24 => ?_)
    refine TL.appendT (k := 2) rfl rfl rfl rfl Tryz.underlying23 porel23 rfl rfl rfl (fun w1 hw => pm_reads hw (k := 0) rfl) (flat_one rs_cel _) (by show _ * 128 ≤ _; omega) ((out ++ [x12]).length) (by rw [List.length_append]; rfl) (flat Rs.cells (out ++ [x12])) ((flat_app _ _).symm) (fun A25 c25 hA251 hA252 => ?_)
    refine TL.as_ ?_
    refine zE (zN (zT (zG (TL.v (gD ((i + 1 : Nat) : Int)) ?_))))
    refine TL.mv ?_
    refine zE ?_
    exact TX.round (⟨(i + 1, (A25, c25), out ++ [x12]), by dsimp only; omega, filt_snoc_t (p := (fun r : Rs => r.ans && decide (r.ttl = ttl))) hx12 (by simp [q11, h15, q20]) hout, by dsimp only; rw [List.length_append]; show out.length + 1 ≤ _; omega, hA251, hA252⟩) (by show l.length - (i + 1) < l.length - i; omega) ⟨rfl, rfl, rfl, rfl, rfl, trivial⟩ (fun w1 hw => hw.pick [2] (by decide) rfl)
   refine TL.pk ?_
   refine zET (zd (zk (zN (zT (zG (TL.v (gD ((i + 1 : Nat) : Int)) ?_))))))
   refine TL.mv ?_
   refine zE ?_
   exact TX.round (⟨(i + 1, (Ao, co), out), by dsimp only; omega, filt_snoc_f (p := (fun r : Rs => r.ans && decide (r.ttl = ttl))) hx12 (by simp [q11, h15, q20]) hout, by dsimp only; omega, houtc, houtm⟩) (by show l.length - (i + 1) < l.length - i; omega) ⟨rfl, rfl, rfl, rfl, rfl, trivial⟩ (fun w1 hw => hw.pick [1] (by decide) rfl)
  refine TL.rn 6 rfl (zET (zd (zk (zN (zT (zG (TL.v (gD ((i + 1 : Nat) : Int)) ?_)))))))
  refine TL.mv ?_
  refine zE ?_
  exact TX.round (⟨(i + 1, (Ao, co), out), by dsimp only; omega, filt_snoc_f (p := (fun r : Rs => r.ans && decide (r.ttl = ttl))) hx12 (by simp [q11, h15]) hout, by dsimp only; omega, houtc, houtm⟩) (by show l.length - (i + 1) < l.length - i; omega) ⟨rfl, rfl, rfl, rfl, rfl, trivial⟩ (fun w1 hw => hw.pick [1] (by decide) rfl)
 refine zET (zS (zd (zx (zX (zX (zM (zT (zSG (TL.rn 2 rfl (zET (zr ?_)))))))))))
 exact ret_tmp Tryz.results77 rfl (fun w1 hw => ⟨⟨((Ao, co), out), by rw [List.take_of_length_le (by omega)] at hout; exact hout.symm, by dsimp only; omega, houtm⟩, rfl, hw.pick [0] (by decide) rfl⟩)
theorem about_any (A0 : Option Addr) (c0 : Nat) (l : List Rs) (p : Rp) (w : World) (hr : Reads w w.heap.size 17 A0 l.length (flat Rs.cells l)) (hl1 : l.length ≤ 100000) (hok : ∀ r ∈ l, r.Ok) :
  Calls Tryz.prog 74 #[.slice A0 l.length c0, .agg p.cells.toArray] w fun e w' => ∃ x : {y : (Option Addr × Nat) × List Rs // IsSt l p.trc p.flow y.2 ∧ y.2.length ≤ y.1.2 ∧ y.1.2 ≤ maxLen}, e = .returned (.slice x.1.1.1 x.1.2.length x.1.1.2) ∧ Pm w [.row (.slice x.1.1.1 x.1.2.length x.1.1.2) 65 17 x.1.2.length (flat Rs.cells x.1.2)] w' := by
 refine begin_ (vs := [.slice A0 l.length c0, .agg p.cells.toArray]) Tryz.func74 rfl rfl rfl ?_ (Pm.start w)
 refine zSG ?_
 refine TL.pnew rfl rfl rfl (exec_box (cs := p.cells) rfl rfl rfl) (fun g3 => ?_)
 refine TL.as_ ?_
 refine zET (zSG (TL.mv ?_))
 refine TL.v (gF arpfld34_1) ?_
 refine TL.v (gV 0 (.agg #[.int .i64 p.v, .int .u32 p.dst, .int .i64 p.proto]) pcpag32 prssz32) ?_
 refine TL.pcallPm (α := {y : (Option Addr × Nat) × List Rs // IsOf l p.trc y.2 ∧ y.2.length ≤ y.1.2 ∧ y.1.2 ≤ maxLen}) (fun x => .slice x.1.1.1 x.1.2.length x.1.1.2) (fun x => [.row (.slice x.1.1.1 x.1.2.length x.1.1.2) 65 17 x.1.2.length (flat Rs.cells x.1.2)]) rfl rfl rfl rfl rfl Tryz.func60 (by decide) rfl (fun w1 hw => rof_any A0 c0 l p.trc w1 (hr.up hw.bel) hl1 hok) ?_
 rintro ⟨⟨⟨R11, rc11⟩, o11⟩, hP11, hR111, hR112⟩
 dsimp only [List.cons_append, List.nil_append]
 dsimp only at hP11 hR111 hR112 ⊢
 refine TL.as_ ?_
 refine zET (zSG (TL.as_ ?_))
 refine zET (zS (zSG (TL.as_ ?_)))
 refine zET (zB (TC.nilrow 65 17 ?_))
 have hol := hP11.le_
 refine TC.loop_ (α := {y : Nat × (Option Addr × Nat) × List Rs // y.1 ≤ o11.length ∧ ((o11.take y.1).filter (fun r : Rs => usbRs r && decide (r.flow = p.flow)) = y.2.2) ∧ y.2.2.length ≤ y.1 ∧ y.2.2.length ≤ y.2.1.2 ∧ y.2.1.2 ≤ maxLen}) (fun y => [(3, .pointer (some ⟨g3, 0, none⟩)), (5, .slice R11 o11.length rc11), (7, .int .i64 ((y.1.1 : Nat) : Int)), (6, .slice y.1.2.1.1 y.1.2.2.length y.1.2.1.2)]) (fun y => Pm w [.row (.slice y.1.2.1.1 y.1.2.2.length y.1.2.1.2) 65 17 y.1.2.2.length (flat Rs.cells y.1.2.2), .row (.slice R11 o11.length rc11) 65 17 o11.length (flat Rs.cells o11), .blk g3 34 p.cells]) (fun y => o11.length - y.1.1) (⟨(0, (none, 0), []), Nat.zero_le _, rfl, Nat.le_refl _, Nat.le_refl _, Nat.zero_le _⟩) ⟨rfl, rfl, rfl, rfl, trivial⟩ (fun w1 hw => hw) ?_
 rintro ⟨⟨i, ⟨Ao, co⟩, out⟩, hi, hout, houtl, houtc, houtm⟩
 dsimp only at hi hout houtl houtc houtm ⊢
 refine zS (zSG (TL.rn 2 rfl (TL.v (gN Tryz.underlying23) ?_)))
 refine TL.sp bin_lss (fun q15 => ?_) (fun q15 => ?_)
 ·refine zET (zc (zk (zT (zS (zB (zS (TC.fact (p := ∃ g, R11 = some ⟨g, 0, none⟩) (fun w1 hw => rowA hw (k := 1) rfl (by omega)) ?_)))))))
  rintro ⟨g_R11, rfl⟩
  refine TC.quietQ (by kernel_rfl) (by kernel_rfl) (fun w hw => hw.drawn _) ?_
  refine TQ.rn 2 rfl ?_
  have hi20 : i < o11.length := by omega
  obtain ⟨x20, hx20⟩ := ex_at hi20
  refine TQ.val rfl rfl rfl (gA (i := i) Tryz.underlying23 prssz65 rfl rfl rfl rfl rfl (by omega)) ?_
  refine TQ.val rfl rfl rfl (gives_loadR (off := 0 + i * 17) rfl rfl prsag65 prssz65 (rs_cel.len x20) (fun w1 hw j9 u9 h9 => flat_row rs_cel hw (q := 1) rfl hx20 j9 u9 h9)) ?_
  refine TQ.callsplit rfl rfl rfl rfl rfl Tryz.func96 (by decide) rfl (fun w1 hw => rusbRs_any x20 w1) (fun h22 => ?_) (fun h22 => ?_)
  ·refine TQ.rn 3 rfl ?_
   refine TQ.on rfl rfl rfl ?_
   refine TQ.val rfl rfl rfl (gA (i := i) Tryz.underlying23 prssz65 rfl rfl rfl rfl rfl (by omega)) ?_
   refine TQ.ov (gF prsfld65_6) ?_
   refine TQ.on rfl rfl rfl ?_
   refine TQ.val rfl rfl rfl (gives_load (v := .int .i64 x20.flow) rfl rfl pcmag3 (fun w1 hw => flat_row rs_cel hw (q := 1) rfl hx20 6 _ rfl)) ?_
   refine TQ.ov (gF arpfld34_2) ?_
   refine TQ.ov (gL 2 pcmag3) ?_
   refine TQ.on rfl rfl rfl ?_
   refine TQ.sp bin_eql (fun q31 => ?_) (fun q31 => ?_)
   ·refine TQ.val rfl rfl rfl (gives_pick rfl rfl rfl) ?_
    refine TQ.fin ?_
    refine zT (zc (zG (TL.rn 3 rfl ?_)))
    refine TL.val rfl rfl rfl (gA (i := i) Tryz.underlying23 prssz65 rfl rfl rfl rfl rfl (by omega)) ?_
    refine TL.val rfl rfl rfl (gives_loadR (off := 0 + i * 17) rfl rfl prsag65 prssz65 (rs_cel.len x20) (fun w1 hw j9 u9 h9 => flat_row rs_cel hw (q := 1) rfl hx20 j9 u9 h9)) ?_
    refine TL.prowS (e := 65) (size := 17) (cs := flat Rs.cells [x20]) rfl rfl rfl rfl rfl (fun w => porbs23_1_99505 _ _ _ _ _ _ _ _ _ _ _ _ _ _ _ _ _ w) (by decide) rfl (fun g38 => ?_)
    refine TL.appendT (k := 1) rfl rfl rfl rfl Tryz.underlying23 porel23 rfl rfl rfl (fun w1 hw => pm_reads hw (k := 0) rfl) (flat_one rs_cel _) (by show _ * 128 ≤ _; omega) ((out ++ [x20]).length) (by rw [List.length_append]; rfl) (flat Rs.cells (out ++ [x20])) ((flat_app _ _).symm) (fun A39 c39 hA391 hA392 => ?_)
    refine TL.as_ ?_
    refine zE (zN (zT (zG (TL.mv ?_))))
    refine TL.v (gD ((i + 1 : Nat) : Int)) ?_
    refine TL.as_ ?_
    refine zE ?_
    exact TX.round (⟨(i + 1, (A39, c39), out ++ [x20]), by dsimp only; omega, filt_snoc_t (p := (fun r : Rs => usbRs r && decide (r.flow = p.flow))) hx20 (by simp [q15, h22, q31]) hout, by dsimp only; rw [List.length_append]; show out.length + 1 ≤ _; omega, hA391, hA392⟩) (by show o11.length - (i + 1) < o11.length - i; omega) ⟨rfl, rfl, rfl, rfl, trivial⟩ (fun w1 hw => hw.pick [1, 2, 3] (by decide) rfl)
   refine TQ.val rfl rfl rfl (gives_pick rfl rfl rfl) ?_
   refine TQ.fin ?_
   refine zT (zd (zk (zN (zT (zG (TL.mv ?_))))))
   refine TL.v (gD ((i + 1 : Nat) : Int)) ?_
   refine TL.as_ ?_
   refine zE ?_
   exact TX.round (⟨(i + 1, (Ao, co), out), by dsimp only; omega, filt_snoc_f (p := (fun r : Rs => usbRs r && decide (r.flow = p.flow))) hx20 (by simp [q15, h22, q31]) hout, by dsimp only; omega, houtc, houtm⟩) (by show o11.length - (i + 1) < o11.length - i; omega) ⟨rfl, rfl, rfl, rfl, trivial⟩ (fun w1 hw => hw)
  refine TQ.rn 10 rfl ?_
  refine TQ.fin ?_
  refine zT (zd (zk (zN (zT (zG (TL.mv ?_))))))
  refine TL.v (gD ((i + 1 : Nat) : Int)) ?_
  refine TL.as_ ?_
  refine zE ?_
  exact TX.round (⟨(i + 1, (Ao, co), out), by dsimp only; omega, filt_snoc_f (p := (fun r : Rs => usbRs r && decide (r.flow = p.flow))) hx20 (by simp [q15, h22]) hout, by dsimp only; omega, houtc, houtm⟩) (by show o11.length - (i + 1) < o11.length - i; omega) ⟨rfl, rfl, rfl, rfl, trivial⟩ (fun w1 hw => hw)
 refine zET (zd (zx (zX (zX (zM (zT (zSG (TL.rn 2 rfl (zET (zr ?_))))))))))
 exact ret_tmp Tryz.results74 rfl (fun w1 hw => ⟨⟨((Ao, co), out), by rw [List.take_of_length_le (by omega)] at hout; exact ⟨o11, hP11, hout.symm⟩, by dsimp only; omega, houtm⟩, rfl, hw.pick [0] (by decide) rfl⟩)
theorem blackhole_l (A0 : Option Addr) (c0 : Nat) (l : List Rs) (losses t : Int) (w : World) (hr : Reads w w.heap.size 17 A0 l.length (flat Rs.cells l)) (hl1 : l.length ≤ 100000) :
  Calls Tryz.prog 72 #[.slice A0 l.length c0, .int .i64 losses, .int .i64 t] w fun e w' => e = .returned (.bool (bhF l losses t)) ∧ Below w.heap.size w w' := by
 refine begin_ (vs := [.slice A0 l.length c0, .int .i64 losses, .int .i64 t]) Tryz.func72 rfl rfl rfl ?_ (Pm.start w)
 refine zSG (TL.as_ ?_)
 refine zET (zSG (TL.as_ ?_))
 refine zET (zS (zSG (TL.mv ?_)))
 refine TL.v (gN Tryz.underlying23) ?_
 refine TL.mv ?_
 refine zET (zB (TC.loop_ (α := {y : Nat × Int // y.1 ≤ l.length ∧ bend (l.take y.1) t = y.2}) (fun y => [(0, .slice A0 l.length c0), (1, .int .i64 losses), (2, .int .i64 t), (13, .slice A0 l.length c0), (14, .int .i64 (l.length : Nat)), (15, .int .i64 ((y.1.1 : Nat) : Int)), (7, .int .i64 y.1.2)]) (fun y => Pm w []) (fun y => l.length - y.1.1) (⟨(0, 0), Nat.zero_le _, rfl⟩) ⟨rfl, rfl, rfl, rfl, rfl, rfl, rfl, trivial⟩ (fun w1 hw => hw) ?_))
 rintro ⟨⟨i, e⟩, hi, hst⟩
 dsimp only at hi hst ⊢
 refine zSG ?_
 refine TL.sp bin_lss (fun q16 => ?_) (fun q16 => ?_)
 ·refine zET (zS (zc (zk (zT (zS (zB (zSG ?_)))))))
  have hi17 : i < l.length := by omega
  obtain ⟨x17, hx17⟩ := ex_at hi17
  obtain ⟨b17, o17, hA17, hbb17, hc17⟩ := hr.ad (by omega) (by decide)
  refine TL.val rfl rfl rfl (gA (i := i) Tryz.underlying23 prssz65 rfl rfl rfl rfl hA17 (by omega)) ?_
  refine TL.v (gR rs_cel prsag65 prssz65 hbb17 hx17 hc17) ?_
  refine TL.pnew rfl rfl rfl (exec_alloc (cs := [.int .i64 0, .int .i64 0, .int .i64 0, .int .i64 0, .int .u32 0, .int .i64 0, .int .i64 0, .int .i64 0, .bool false, .bool false, .int .i64 0, .int .u32 0, .int .i64 0, .int .i64 0, .int .i64 0, .int .i64 0, .int .i64 0]) rfl arpzv65 rfl) (fun g9 => ?_)
  refine TL.pstore (k := 0) (vs := x17.cells) rfl rfl rfl rfl rfl rfl rfl prssz65 (rs_cel.one _) (by show 17 ≤ 17; decide) (L' := [.blk g9 65 x17.cells]) rfl ?_
  refine zET (zSG (TL.v (gV 0 (.agg (x17.cells).toArray) prsag65 prssz65) ?_))
  refine TL.callsplit rfl rfl rfl rfl rfl Tryz.func122 (by decide) rfl (fun w1 hw => finRs_any x17 w1) (fun h20 => ?_) (fun h20 => ?_)
  ·refine TL.mv ?_
   refine TL.ov (gF prsfld65_10) ?_
   refine TL.ov (gL 0 pcmag3) ?_
   refine TL.rn 1 rfl (TL.gu ?_)
   refine TL.sp bin_leq (fun q25 => ?_) (fun q25 => ?_)
   ·refine TL.rn 3 rfl (TL.gu ?_)
    refine TL.sp bin_eql (fun q29 => ?_) (fun q29 => ?_)
    ·refine TL.rn 7 rfl (zET (zc (zG (TL.v (gF prsfld65_7) ?_))))
     refine TL.v (gL 0 pcmag3) ?_
     refine TL.as_ ?_
     refine zE (zN (zT (zG (TL.v (gD ((i + 1 : Nat) : Int)) ?_))))
     refine TL.mv ?_
     refine zE ?_
     exact TX.round (⟨(i + 1, x17.ttl), by dsimp only; omega, by rw [bend_snoc hx17 hst, if_pos (by simp [fitB, q16, h20, q25, q29])]⟩) (by show l.length - (i + 1) < l.length - i; omega) ⟨rfl, rfl, rfl, rfl, rfl, rfl, rfl, trivial⟩ (fun w1 hw => hw.pick [] (by decide) rfl)
    refine TL.rn 1 rfl (TL.ov (gF prsfld65_7) ?_)
    refine TL.ov (gL 0 pcmag3) ?_
    refine TL.rn 1 rfl (TL.gu ?_)
    refine TL.sp bin_lss (fun q34 => ?_) (fun q34 => ?_)
    ·refine TL.rn 2 rfl (zET (zc (zG (TL.v (gF prsfld65_7) ?_))))
     refine TL.v (gL 0 pcmag3) ?_
     refine TL.as_ ?_
     refine zE (zN (zT (zG (TL.v (gD ((i + 1 : Nat) : Int)) ?_))))
     refine TL.mv ?_
     refine zE ?_
     exact TX.round (⟨(i + 1, x17.ttl), by dsimp only; omega, by rw [bend_snoc hx17 hst, if_pos (by simp [fitB, q16, h20, q25, q29, q34])]⟩) (by show l.length - (i + 1) < l.length - i; omega) ⟨rfl, rfl, rfl, rfl, rfl, rfl, rfl, trivial⟩ (fun w1 hw => hw.pick [] (by decide) rfl)
    refine TL.rn 2 rfl (zET (zd (zk (zN (zT (zG (TL.v (gD ((i + 1 : Nat) : Int)) ?_)))))))
    refine TL.mv ?_
    refine zE ?_
    exact TX.round (⟨(i + 1, e), by dsimp only; omega, by rw [bend_snoc hx17 hst, if_neg (by simp [fitB, q16, h20, q25, q29, q34])]⟩) (by show l.length - (i + 1) < l.length - i; omega) ⟨rfl, rfl, rfl, rfl, rfl, rfl, rfl, trivial⟩ (fun w1 hw => hw.pick [] (by decide) rfl)
   refine TL.rn 5 rfl ?_
   refine TL.offU rfl rfl rfl rfl rfl ?_
   refine TL.offU rfl rfl rfl rfl rfl ?_
   refine TL.offU rfl rfl rfl rfl rfl ?_
   refine TL.offU rfl rfl rfl rfl rfl ?_
   refine TL.rn 2 rfl (zET (zd (zk (zN (zT (zG (TL.v (gD ((i + 1 : Nat) : Int)) ?_)))))))
   refine TL.mv ?_
   refine zE ?_
   exact TX.round (⟨(i + 1, e), by dsimp only; omega, by rw [bend_snoc hx17 hst, if_neg (by simp [fitB, q16, h20, q25])]⟩) (by show l.length - (i + 1) < l.length - i; omega) ⟨rfl, rfl, rfl, rfl, rfl, rfl, rfl, trivial⟩ (fun w1 hw => hw.pick [] (by decide) rfl)
  refine TL.rn 10 rfl ?_
  refine TL.offU rfl rfl rfl rfl rfl ?_
  refine TL.offU rfl rfl rfl rfl rfl ?_
  refine TL.offU rfl rfl rfl rfl rfl ?_
  refine TL.offU rfl rfl rfl rfl rfl ?_
  refine TL.rn 2 rfl (zET (zd (zk (zN (zT (zG (TL.v (gD ((i + 1 : Nat) : Int)) ?_)))))))
  refine TL.mv ?_
  refine zE ?_
  exact TX.round (⟨(i + 1, e), by dsimp only; omega, by rw [bend_snoc hx17 hst, if_neg (by simp [fitB, q16, h20])]⟩) (by show l.length - (i + 1) < l.length - i; omega) ⟨rfl, rfl, rfl, rfl, rfl, rfl, rfl, trivial⟩ (fun w1 hw => hw.pick [] (by decide) rfl)
 refine zET (zS (zd (zx (zX (zX (zM (zT (zSG (TL.as_ ?_)))))))))
 refine zET (zS (zS ?_))
 have hend : bend l t = e := by rw [List.take_of_length_le (by omega)] at hst; exact hst
 refine zG (TL.mv ?_)
 refine TL.v (gN Tryz.underlying23) ?_
 refine TL.mv ?_
 refine zET (zB (TC.loop_ (α := {y : Nat × Nat // y.1 ≤ l.length ∧ lostN e t (l.take y.1) = y.2 ∧ y.2 ≤ y.1}) (fun y => [(0, .slice A0 l.length c0), (1, .int .i64 losses), (2, .int .i64 t), (7, .int .i64 e), (40, .slice A0 l.length c0), (41, .int .i64 (l.length : Nat)), (42, .int .i64 ((y.1.1 : Nat) : Int)), (10, .int .i64 ((y.1.2 : Nat) : Int))]) (fun y => Pm w []) (fun y => l.length - y.1.1) (⟨(0, 0), Nat.zero_le _, rfl, Nat.le_refl _⟩) ⟨rfl, rfl, rfl, rfl, rfl, rfl, rfl, rfl, trivial⟩ (fun w1 hw => hw) ?_))
 rintro ⟨⟨j, c⟩, hj, hc, hcj⟩
 dsimp only at hj hc hcj ⊢
 refine zSG ?_
 refine TL.sp bin_lss (fun q43 => ?_) (fun q43 => ?_)
 ·refine zET (zS (zc (zk (zT (zS (zB (zSG ?_)))))))
  have hi44 : j < l.length := by omega
  obtain ⟨x44, hx44⟩ := ex_at hi44
  obtain ⟨b44, o44, hA44, hbb44, hc44⟩ := hr.ad (by omega) (by decide)
  refine TL.val rfl rfl rfl (gA (i := j) Tryz.underlying23 prssz65 rfl rfl rfl rfl hA44 (by omega)) ?_
  refine TL.v (gR rs_cel prsag65 prssz65 hbb44 hx44 hc44) ?_
  refine TL.pnew rfl rfl rfl (exec_alloc (cs := [.int .i64 0, .int .i64 0, .int .i64 0, .int .i64 0, .int .u32 0, .int .i64 0, .int .i64 0, .int .i64 0, .bool false, .bool false, .int .i64 0, .int .u32 0, .int .i64 0, .int .i64 0, .int .i64 0, .int .i64 0, .int .i64 0]) rfl arpzv65 rfl) (fun g12 => ?_)
  refine TL.pstore (k := 0) (vs := x44.cells) rfl rfl rfl rfl rfl rfl rfl prssz65 (rs_cel.one _) (by show 17 ≤ 17; decide) (L' := [.blk g12 65 x44.cells]) rfl ?_
  refine zET (zSG (TL.v (gF prsfld65_8) ?_))
  refine TL.vsplit rfl rfl rfl (gL 0 prsag4) (fun h47 => ?_) (fun h47 => ?_)
  ·refine TL.rn 13 rfl (zET (zd (zk (zN (zT (zG (TL.v (gD ((j + 1 : Nat) : Int)) ?_)))))))
   refine TL.mv ?_
   refine zE ?_
   exact TX.round (⟨(j + 1, c), by dsimp only; omega, lost_f hx44 (by simp [lostR, q43, h47]) hc, by dsimp only; omega⟩) (by show l.length - (j + 1) < l.length - j; omega) ⟨rfl, rfl, rfl, rfl, rfl, rfl, rfl, rfl, trivial⟩ (fun w1 hw => hw.pick [] (by decide) rfl)
  refine TL.rn 2 rfl (TL.ov (gF prsfld65_7) ?_)
  refine TL.ov (gL 0 pcmag3) ?_
  refine TL.rn 1 rfl (TL.gu ?_)
  refine TL.sp bin_geq (fun q53 => ?_) (fun q53 => ?_)
  ·refine TL.rn 2 rfl (TL.ov (gF prsfld65_3) ?_)
   refine TL.ov (gL 0 pcmag3) ?_
   refine TL.rn 1 rfl (TL.gu ?_)
   refine TL.sp bin_geq (fun q59 => ?_) (fun q59 => ?_)
   ·refine TL.pk ?_
    refine zET (zc (zG (TL.mv ?_)))
    refine TL.v (gD ((c + 1 : Nat) : Int)) ?_
    refine TL.as_ ?_
    refine zE (zN (zT (zG (TL.v (gD ((j + 1 : Nat) : Int)) ?_))))
    refine TL.mv ?_
    refine zE ?_
    exact TX.round (⟨(j + 1, c + 1), by dsimp only; omega, lost_t hx44 (by simp [lostR, q43, h47, q53, q59]) hc, by dsimp only; omega⟩) (by show l.length - (j + 1) < l.length - j; omega) ⟨rfl, rfl, rfl, rfl, rfl, rfl, rfl, rfl, trivial⟩ (fun w1 hw => hw.pick [] (by decide) rfl)
   refine TL.pk ?_
   refine zET (zd (zk (zN (zT (zG (TL.v (gD ((j + 1 : Nat) : Int)) ?_))))))
   refine TL.mv ?_
   refine zE ?_
   exact TX.round (⟨(j + 1, c), by dsimp only; omega, lost_f hx44 (by simp [lostR, q43, h47, q53, q59]) hc, by dsimp only; omega⟩) (by show l.length - (j + 1) < l.length - j; omega) ⟨rfl, rfl, rfl, rfl, rfl, rfl, rfl, rfl, trivial⟩ (fun w1 hw => hw.pick [] (by decide) rfl)
  refine TL.rn 7 rfl (zET (zd (zk (zN (zT (zG (TL.v (gD ((j + 1 : Nat) : Int)) ?_)))))))
  refine TL.mv ?_
  refine zE ?_
  exact TX.round (⟨(j + 1, c), by dsimp only; omega, lost_f hx44 (by simp [lostR, q43, h47, q53]) hc, by dsimp only; omega⟩) (by show l.length - (j + 1) < l.length - j; omega) ⟨rfl, rfl, rfl, rfl, rfl, rfl, rfl, rfl, trivial⟩ (fun w1 hw => hw.pick [] (by decide) rfl)
 refine zET (zS (zd (zx (zX (zX (zM (zT (zSG (TL.mv ?_)))))))))
 refine TL.sp bin_gtr (fun q65 => ?_) (fun q65 => ?_)
 ·refine TL.rn 3 rfl (TL.gu ?_)
  refine TL.sp bin_geq (fun q69 => ?_) (fun q69 => ?_)
  ·refine TL.rn 2 rfl (zET (zr ?_))
   have hc2 : lostN e t l = c := by rw [List.take_of_length_le (by omega)] at hc; exact hc
   have hE : bhF l losses t = true := by unfold bhF; rw [hend, hc2]; simp only [Bool.and_eq_true, Bool.and_eq_false_iff, decide_eq_true_eq, decide_eq_false_iff_not]; omega
   exact ret_tmp Tryz.results72 rfl (fun w1 hw => ⟨by rw [hE], hw.bel⟩)
  refine TL.rn 2 rfl (zET (zr ?_))
  have hc2 : lostN e t l = c := by rw [List.take_of_length_le (by omega)] at hc; exact hc
  have hE : bhF l losses t = false := by unfold bhF; rw [hend, hc2]; simp only [Bool.and_eq_true, Bool.and_eq_false_iff, decide_eq_true_eq, decide_eq_false_iff_not]; omega
  exact ret_tmp Tryz.results72 rfl (fun w1 hw => ⟨by rw [hE], hw.bel⟩)
 refine TL.rn 6 rfl (zET (zr ?_))
 have hc2 : lostN e t l = c := by rw [List.take_of_length_le (by omega)] at hc; exact hc
 have hE : bhF l losses t = false := by unfold bhF; rw [hend, hc2]; simp only [Bool.and_eq_true, Bool.and_eq_false_iff, decide_eq_true_eq, decide_eq_false_iff_not]; omega
 exact ret_tmp Tryz.results72 rfl (fun w1 hw => ⟨by rw [hE], hw.bel⟩)
set_option maxRecDepth 20000
def IxOk (p : Rs → Bool) (l : List Rs) (z : Int) : Prop := (z = -1 ∧ ∀ r ∈ l, p r = false) ∨ ∃ i : Nat, z = (i : Int) ∧ i < l.length ∧ (∀ r ∈ l.take i, p r = false) ∧ ∃ y, l[i]? = some y ∧ p y = true
structure DelI (p : Rs → Bool) (l : List Rs) (k j : Nat) (ys : List Rs) : Prop where
 len : ys.length = l.length
 kj : k < j
 jn : j ≤ l.length
 pre : ys.take k = (l.take j).filter fun r => !p r
 post : ∀ q, j ≤ q → ys[q]? = l[q]?
section
variable {p : Rs → Bool} {l ys : List Rs} {k j i : Nat} {x : Rs}
theorem all_keep (h : ∀ r ∈ l, p r = false) : (l.filter fun r => !p r) = l := List.filter_eq_self.2 fun r hr => by rw [h r hr]; rfl
theorem DelI.start (hi : i < l.length) (h : ∀ r ∈ l.take i, p r = false) (hx : l[i]? = some x) (hp : p x = true) : DelI p l i (i + 1) l := ⟨rfl, Nat.lt_succ_self _, hi, by
 rw [List.take_add_one, hx, List.filter_append, all_keep h]
 simp [hp], fun q _ => rfl⟩
theorem DelI.at_ (h : DelI p l k j ys) (hx : ys[j]? = some x) : l[j]? = some x := by rw [← h.post j (Nat.le_refl _)]; exact hx
theorem DelI.out (h : DelI p l k j ys) (hj : j < l.length) (hx : ys[j]? = some x) (hp : p x = true) : DelI p l k (j + 1) ys := ⟨h.len, by have := h.kj; omega, hj, by
 rw [List.take_add_one, h.at_ hx, List.filter_append, h.pre]
 simp [hp], fun q hq => h.post q (by omega)⟩
theorem DelI.keep (h : DelI p l k j ys) (hj : j < l.length) (hx : ys[j]? = some x) (hp : p x = false) : DelI p l (k + 1) (j + 1) (ys.set k x) := ⟨by rw [List.length_set]; exact h.len, by have := h.kj; omega, hj, by
 have hk : k < ys.length := by have := h.kj; have := h.len; omega
 rw [List.take_add_one, List.getElem?_set_self hk, List.take_set_of_le (Nat.le_refl _), List.take_add_one, h.at_ hx, List.filter_append, h.pre]
 simp [hp], fun q hq => by rw [List.getElem?_set_ne (by have := h.kj; omega)]; exact h.post q (by omega)⟩
theorem DelI.fin (h : DelI p l k j ys) (hj : l.length ≤ j) {n : Nat} {z : Rs} : (ys.take k ++ List.replicate n z).take k = (l.filter fun r => !p r) ∧ (l.filter fun r => !p r).length = k := by
 have hk : k ≤ ys.length := by have := h.kj; have := h.len; have := h.jn; omega
 have e := h.pre
 rw [List.take_of_length_le hj] at e
 have e2 : (ys.take k).length = k := by rw [List.length_take]; omega
 refine ⟨by rw [List.take_left' e2]; exact e, ?_⟩
 rw [← e]; exact e2
end
theorem ixG_any (A0 : Option Addr) (c0 : Nat) (l : List Rs) (p : Rs → Bool) (f : FuncId) (fn : Func) (cap : Array Value) (w : World) (hr : Reads w w.heap.size 17 A0 l.length (flat Rs.cells l)) (hl1 : l.length ≤ 100000) (hfn : Tryz.prog.funcs[f]? = some fn) (hnm : (fn.name == "runtime.NumGoroutine") = false) (hbd : fn.body.isNone = false) (hf : ∀ (x : Rs) (w1 : World), Below w.heap.size w w1 → Calls Tryz.prog f (#[] ++ [Value.agg x.cells.toArray].toArray ++ cap) w1 fun e w' => e = .returned (.bool (p x)) ∧ Below w1.heap.size w1 w') :
  Calls Tryz.prog 131 #[.slice A0 l.length c0, .func (.func f) #[] cap] w fun e w' => ∃ x : {z : Int // IxOk p l z}, e = .returned (.int .i64 x.1) ∧ Below w.heap.size w w' := by
 refine begin_ (vs := [.slice A0 l.length c0, .func (.func f) #[] cap]) Tryz.func131 rfl rfl rfl ?_ (Pm.start w)
 refine zSG (TL.as_ ?_)
 refine zET (zS (zSG (TL.mv ?_)))
 refine TL.v (gN Tryz.underlying23) ?_
 refine TL.mv ?_
 refine zET (zB ?_)
 refine TC.loop_ (α := {i : Nat // i ≤ l.length ∧ ∀ r ∈ l.take i, p r = false}) (fun y => [(0, .slice A0 l.length c0), (1, .func (.func f) #[] cap), (7, .int .i64 (l.length : Nat)), (8, .int .i64 ((y.1 : Nat) : Int))]) (fun y => Pm w []) (fun y => l.length - y.1) (⟨0, Nat.zero_le _, fun r hr => by rw [List.take_zero] at hr; cases hr⟩) ⟨rfl, rfl, rfl, rfl, trivial⟩ (fun w1 hw => hw) ?_
 rintro ⟨i, hi, hall⟩
 try dsimp only at hi hall ⊢
 refine zSG ?_
 refine TL.vsplit rfl rfl rfl (gives_bin rfl rfl rfl (fun w => bin_lss w)) (fun h9 => ?_) (fun h9 => ?_)
 ·have q9 := of_decide_eq_true h9
  refine zET (zS (zc (zk (zT (zS (zB (zSG (TL.rn 2 rfl (zET (zSG (TL.rn 3 rfl ?_)))))))))))
  have hi14 : i < l.length := by omega
  obtain ⟨x14, hx14⟩ := ex_at hi14
  obtain ⟨b14, o14, hA14, hbb14, hc14⟩ := hr.ad (by omega) (by decide)
  refine TL.val rfl rfl rfl (gA (i := i) Tryz.underlying23 prssz65 rfl rfl rfl rfl hA14 (by omega)) ?_
  refine TL.v (gR rs_cel prsag65 prssz65 hbb14 hx14 hc14) ?_
  obtain ⟨bv, hbv⟩ : ∃ b, p x14 = b := ⟨_, rfl⟩
  refine TL.callE1 (r := .bool bv) rfl rfl rfl (ent_val rfl rfl rfl hfn hnm hbd rfl) (fun w1 hw => by rw [← hbv]; exact hf x14 w1 hw.bel) ?_
  refine zET ?_
  refine TC.split (t := bv) rfl (fun c16 => ?_) (fun c16 => ?_)
  ·refine zSG (TL.rn 2 rfl (zET (zr (zRR (zR (zRR ?_))))))
   exact ret_tmp Tryz.results131 rfl (fun w1 hw => ⟨⟨(i : Int), .inr ⟨i, rfl, by omega, hall, x14, hx14, by rw [hbv, c16]⟩⟩, rfl, hw.bel⟩)
  refine zk (zN (zT (zG ?_)))
  refine TL.v (gD ((i + 1 : Nat) : Int)) ?_
  refine TL.mv ?_
  refine zE ?_
  exact TX.round (⟨i + 1, by omega, fun r hr => by rcases (mem_take_snoc hx14).1 hr with h9 | h9; exact hall r h9; rw [h9, hbv, c16]⟩) (by show l.length - (i + 1) < l.length - i; omega) ⟨rfl, rfl, rfl, rfl, trivial⟩ (fun w1 hw => hw)
 have q9 := of_decide_eq_false h9
 refine zET (zS (zd (zx (zX (zX (zM (zT (zSG (TL.as_ ?_)))))))))
 refine zET (zr ?_)
 exact ret_tmp Tryz.results131 rfl (fun w1 hw => ⟨⟨-1, .inl ⟨rfl, by rw [List.take_of_length_le (by omega)] at hall; exact hall⟩⟩, rfl, hw.bel⟩)
theorem delG_any (w0 : Base) (F : List Pc) (A0 : Option Addr) (c0 : Nat) (l : List Rs) (p : Rs → Bool) (f : FuncId) (fn : Func) (cap : Array Value) (w : World) (hw0 : Pm w0 ([.row (.slice A0 l.length c0) 65 17 l.length (flat Rs.cells l)] ++ F) w) (hl1 : l.length ≤ 100000) (hmc : l.length ≤ c0) (hcm : c0 ≤ maxLen) (hfn : Tryz.prog.funcs[f]? = some fn) (hnm : (fn.name == "runtime.NumGoroutine") = false) (hbd : fn.body.isNone = false) (hf : ∀ (x : Rs) (w1 : World), (∃ L1, Pm w0 (L1 ++ F) w1) → Calls Tryz.prog f (#[] ++ [Value.agg x.cells.toArray].toArray ++ cap) w1 fun e w' => e = .returned (.bool (p x)) ∧ Below w1.heap.size w1 w') :
  Calls Tryz.prog 108 #[.slice A0 l.length c0, .func (.func f) #[] cap] w fun e w' => e = .returned (.slice A0 (l.filter fun r => !p r).length c0) ∧ Pm w0 ([.row (.slice A0 (l.filter fun r => !p r).length c0) 65 17 (l.filter fun r => !p r).length (flat Rs.cells (l.filter fun r => !p r))] ++ F) w' := by
 refine begin_ (vs := [.slice A0 l.length c0, .func (.func f) #[] cap]) (I := Pm w0 ([.row (.slice A0 l.length c0) 65 17 l.length (flat Rs.cells l)] ++ F)) Tryz.func108 rfl rfl rfl ?_ hw0
 refine zSG (TL.as_ ?_)
 refine zET (zSG (TL.rn 2 rfl ?_))
 refine TL.call (α := {z : Int // IxOk p l z}) (r := fun x => .int .i64 x.1) (I' := fun _ => Pm w0 ([.row (.slice A0 l.length c0) 65 17 l.length (flat Rs.cells l)] ++ F)) rfl rfl rfl rfl rfl Tryz.func131 (by decide) rfl (fun w1 hw => (ixG_any A0 c0 l p f fn cap w1 (pm_rd hw (k := 0) rfl) (by omega) hfn hnm hbd (fun x w2 hb => hf x w2 ⟨_, hw.below hb⟩)).mono fun en w2 ⟨x, h1, h2⟩ => ⟨x, h1, hw.below h2⟩) ?_
 rintro ⟨z, hz⟩
 refine TL.as_ ?_
 refine zET (zS (zSG (TL.mv ?_)))
 refine TL.sp bin_eql (fun q12 => ?_) (fun q12 => ?_)
 ·refine zET (zc (zSG (TL.rn 2 rfl (zET (zr (zR ?_))))))
  have hE := all_keep (hz.elim (fun h => h.2) (fun ⟨i, h, _⟩ => absurd (show (i : Int) = -1 from h.symm.trans q12) (by omega)))
  exact ret_tmp Tryz.results108 rfl (fun w1 hw => by rw [hE]; exact ⟨rfl, hw⟩)
 obtain ⟨i, rfl, hi, hall, y0, hy0, hpy⟩ : ∃ i : Nat, z = (i : Int) ∧ i < l.length ∧ (∀ r ∈ l.take i, p r = false) ∧ ∃ y, l[i]? = some y ∧ p y = true := hz.resolve_left fun h => q12 h.1
 refine zET (zd (zk (zT (zS (zSG (TL.mv ?_))))))
 refine TL.v (gD ((i + 1 : Nat) : Int)) ?_
 refine TL.as_ ?_
 refine zET (zB (TC.loop_ (α := {y : Nat × Nat × List Rs // DelI p l y.1 y.2.1 y.2.2}) (fun y => [(0, .slice A0 l.length c0), (1, .func (.func f) #[] cap), (5, .int .i64 ((y.1.1 : Nat) : Int)), (6, .int .i64 ((y.1.2.1 : Nat) : Int))]) (fun y => Pm w0 ([.row (.slice A0 l.length c0) 65 17 l.length (flat Rs.cells y.1.2.2)] ++ F)) (fun y => l.length - y.1.2.1) (⟨(i, i + 1, l), DelI.start hi hall hy0 hpy⟩) ⟨rfl, rfl, rfl, rfl, trivial⟩ (fun w1 hw => hw) ?_))
 rintro ⟨⟨k, j, ys⟩, hD⟩
 dsimp only at hD ⊢
 have hyl := hD.len
 have hkj := hD.kj
 have hjn := hD.jn
 refine zS (zSG (TL.rn 2 rfl (TL.v (gN Tryz.underlying23) ?_)))
 refine TL.sp bin_lss (fun q19 => ?_) (fun q19 => ?_)
 ·refine zET (zc (zk (zT (zS (zB (zSG (TL.rn 2 rfl ?_)))))))
  refine TL.fact (p := ∃ g, A0 = some ⟨g, 0, none⟩) (fun w1 hw => rowA hw (k := 0) rfl (by omega)) ?_
  rintro ⟨g_A0, rfl⟩
  have hi24 : j < ys.length := by omega
  obtain ⟨x24, hx24⟩ := ex_at hi24
  refine TL.val rfl rfl rfl (gA (i := j) Tryz.underlying23 prssz65 rfl rfl rfl rfl rfl (by omega)) ?_
  refine TL.val rfl rfl rfl (gives_loadR (off := 0 + j * 17) rfl rfl prsag65 prssz65 (rs_cel.len x24) (fun w1 hw j9 u9 h9 => flat_row rs_cel hw (q := 0) rfl hx24 j9 u9 h9)) ?_
  refine TL.pnew rfl rfl rfl (exec_alloc (cs := [.int .i64 0, .int .i64 0, .int .i64 0, .int .i64 0, .int .u32 0, .int .i64 0, .int .i64 0, .int .i64 0, .bool false, .bool false, .int .i64 0, .int .u32 0, .int .i64 0, .int .i64 0, .int .i64 0, .int .i64 0, .int .i64 0]) rfl arpzv65 rfl) (fun g7 => ?_)
  refine TL.pstore (k := 0) (vs := x24.cells) rfl rfl rfl rfl rfl rfl rfl prssz65 (rs_cel.one _) (by show 17 ≤ 17; decide) (L' := ([.blk g7 65 x24.cells, .row (.slice (some ⟨g_A0, 0, none⟩) l.length c0) 65 17 l.length (flat Rs.cells ys)] ++ F)) rfl ?_
  refine zET (zSG (TL.mv ?_))
  refine TL.v (gV 0 (.agg (x24.cells).toArray) prsag65 prssz65) ?_
  obtain ⟨bv, hbv⟩ : ∃ b, p x24 = b := ⟨_, rfl⟩
  refine TL.callE1 (r := .bool bv) rfl rfl rfl (ent_val rfl rfl rfl hfn hnm hbd rfl) (fun w1 hw => by rw [← hbv]; exact hf x24 w1 ⟨_, hw⟩) ?_
  refine TL.val rfl rfl rfl (gives_boolnot (b := bv) rfl rfl) ?_
  refine zET ?_
  refine TC.split (t := (!bv)) rfl (fun c29 => ?_) (fun c29 => ?_)
  ·refine zSG (TL.rn 2 rfl (TL.v (gV 0 (.agg (x24.cells).toArray) prsag65 prssz65) ?_))
   have hi33 : k < ys.length := by omega
   obtain ⟨x33, hx33⟩ := ex_at hi33
   refine TL.val rfl rfl rfl (gA (i := k) Tryz.underlying23 prssz65 rfl rfl rfl rfl rfl (by omega)) ?_
   refine TL.rowset (k := 1) (vs := x24.cells) (xs' := flat Rs.cells (ys.set k x24)) rfl rfl rfl rfl rfl rfl rfl prssz65 (rs_cel.one _) (by rw [flat_len rs_cel]; show 0 + k * 17 + 17 ≤ _; omega) (flat_put rs_cel (q := 0) (y := x24) hx33 (by show 0 + 17 ≤ 17; decide) rfl) ?_
   try dsimp only [List.set_cons_zero, List.set_cons_succ]
   refine zET (zG (TL.mv ?_))
   refine TL.v (gD ((k + 1 : Nat) : Int)) ?_
   refine TL.as_ ?_
   refine zE (zN (zT (zG (TL.mv ?_))))
   refine TL.v (gD ((j + 1 : Nat) : Int)) ?_
   refine TL.as_ ?_
   refine zE ?_
   exact TX.round (⟨(k + 1, j + 1, ys.set k x24), hD.keep (by omega) hx24 (by rw [hbv]; simpa using c29)⟩) (by show l.length - (j + 1) < l.length - j; omega) ⟨rfl, rfl, rfl, rfl, trivial⟩ (fun w1 hw => hw.sel (.cons _ (.cons_cons _ (List.Sublist.refl _))))
  refine zk (zN (zT (zG ?_)))
  refine TL.mv ?_
  refine TL.v (gD ((j + 1 : Nat) : Int)) ?_
  refine TL.as_ ?_
  refine zE ?_
  exact TX.round (⟨(k, j + 1, ys), hD.out (by omega) hx24 (by rw [hbv]; simpa using c29)⟩) (by show l.length - (j + 1) < l.length - j; omega) ⟨rfl, rfl, rfl, rfl, trivial⟩ (fun w1 hw => hw.sel (.cons _ (.cons_cons _ (List.Sublist.refl _))))
 refine zET (zd (zx (zX (zX (zM (zT (zS (TC.fact (p := ∃ g, A0 = some ⟨g, 0, none⟩) (fun w1 hw => rowA hw (k := 0) rfl (by omega)) ?_))))))))
 rintro ⟨g_A0, rfl⟩
 refine zG (TL.rn 2 rfl ?_)
 refine TL.val rfl rfl rfl (gives_tailF (q := k) rfl rfl rfl rfl Tryz.underlying23 prssz65 (by omega) (by omega)) ?_
 refine TL.clearF rs_cel (kk := 0) (q := k) (z := Rs.zero) rfl rfl rfl rfl Tryz.underlying23 arpzv65 (by omega) (by omega) rfl ?_
 try dsimp only [List.set_cons_zero, List.set_cons_succ]
 refine zET (zSG (TL.rn 2 rfl ?_))
 refine TL.headF rs_cel (kk := 0) (hi := k) rfl rfl rfl rfl rfl rfl Tryz.underlying23 prssz65 rfl (by omega) (by omega) ?_
 try dsimp only [List.set_cons_zero, List.set_cons_succ]
 refine TL.as_ ?_
 refine zET (zr ?_)
 obtain ⟨hf1, hf2⟩ := hD.fin (by omega) (n := l.length - k) (z := Rs.zero)
 exact ret_tmp Tryz.results108 rfl (fun w1 hw => by rw [← hf1, List.length_take_of_le (by rw [List.length_append, List.length_take, List.length_replicate]; have := hD.len; have := hD.kj; omega)]; exact ⟨rfl, hw⟩)
set_option maxRecDepth 20000
theorem strm1_any (r : Rs) (flow : Int) (g : Nat) (w : World) (hg : g < w.heap.size) (hc : w.cell? ⟨g, 0, none⟩ = some (.int .i64 flow)) :
  Calls Tryz.prog 123 #[.agg r.cells.toArray, .pointer (some ⟨g, 0, none⟩)] w fun e w' => e = .returned (.bool ((fun r : Rs => !(usbRs r && decide (r.flow = flow))) r)) ∧ Below w.heap.size w w' := by
 refine begin_ (vs := [.agg r.cells.toArray, .pointer (some ⟨g, 0, none⟩)]) Tryz.func123 rfl rfl rfl ?_ (Pm.start w)
 refine zSG ?_
 refine TL.pnew rfl rfl rfl (exec_box (cs := r.cells) rfl rfl rfl) (fun g2 => ?_)
 refine TL.as_ ?_
 refine zET (zSG (TL.v (gF prsfld65_6) ?_))
 refine TL.v (gL 0 pcmag3) ?_
 refine TL.val rfl rfl rfl (gives_load (v := .int .i64 flow) rfl rfl pcmag3 (fun w1 hw => (hw.bel.cell hg).trans hc)) ?_
 refine TL.sp bin_neq (fun q7 => ?_) (fun q7 => ?_)
 ·refine TL.rn 6 rfl (zET (zr ?_))
  have hE : ((fun r : Rs => !(usbRs r && decide (r.flow = flow))) r) = true := (by simp [Bool.not_eq_true, q7] <;> omega)
  exact ret_tmp Tryz.results123 rfl (fun w1 hw => ⟨by rw [hE]; try rfl, hw.bel⟩)
 refine TL.mv ?_
 refine TL.ov (gV 0 (.agg (r.cells).toArray) prsag65 prssz65) ?_
 refine TL.gu ?_
 refine TL.callsplit rfl rfl rfl rfl rfl Tryz.func91 (by decide) rfl (fun w1 hw => usbRs_any r w1) (fun h10 => ?_) (fun h10 => ?_)
 ·refine TL.rn 3 rfl (zET (zr ?_))
  have hE : ((fun r : Rs => !(usbRs r && decide (r.flow = flow))) r) = false := (by simp [Bool.not_eq_true, q7, h10] <;> omega)
  exact ret_tmp Tryz.results123 rfl (fun w1 hw => ⟨by rw [hE]; try rfl, hw.bel⟩)
 refine TL.rn 3 rfl (zET (zr ?_))
 have hE : ((fun r : Rs => !(usbRs r && decide (r.flow = flow))) r) = true := (by simp [Bool.not_eq_true, q7, h10] <;> omega)
 exact ret_tmp Tryz.results123 rfl (fun w1 hw => ⟨by rw [hE]; try rfl, hw.bel⟩)
theorem stream_any (A0 : Option Addr) (c0 : Nat) (l : List Rs) (t : Trc) (flow : Int) (w : World) (hr : Reads w w.heap.size 17 A0 l.length (flat Rs.cells l)) (hl1 : l.length ≤ 100000) (hok : ∀ r ∈ l, r.Ok) :
  Calls Tryz.prog 73 #[.slice A0 l.length c0, .agg t.cells.toArray, .int .i64 flow] w fun e w' => ∃ x : {y : (Option Addr × Nat) × List Rs // IsSt l t flow y.2 ∧ y.2.length ≤ y.1.2 ∧ y.1.2 ≤ maxLen}, e = .returned (.slice x.1.1.1 x.1.2.length x.1.1.2) ∧ Pm w [.row (.slice x.1.1.1 x.1.2.length x.1.1.2) 65 17 x.1.2.length (flat Rs.cells x.1.2)] w' := by
 refine begin_ (vs := [.slice A0 l.length c0, .agg t.cells.toArray, .int .i64 flow]) Tryz.func73 rfl rfl rfl ?_ (Pm.start w)
 refine zSG ?_
 refine TL.pnew rfl rfl rfl (exec_box (cs := t.cells) rfl rfl rfl) (fun g4 => ?_)
 refine TL.pnew rfl rfl rfl (exec_box (cs := [.int .i64 flow]) rfl rfl rfl) (fun g5 => ?_)
 refine TL.as_ ?_
 refine zET (zSG (TL.mv ?_))
 refine TL.v (gV 1 (.agg (t.cells).toArray) pcpag32 prssz32) ?_
 refine TL.pcallPm (α := {y : (Option Addr × Nat) × List Rs // IsOf l t y.2 ∧ y.2.length ≤ y.1.2 ∧ y.1.2 ≤ maxLen}) (fun x => .slice x.1.1.1 x.1.2.length x.1.1.2) (fun x => [.row (.slice x.1.1.1 x.1.2.length x.1.1.2) 65 17 x.1.2.length (flat Rs.cells x.1.2)]) rfl rfl rfl rfl rfl Tryz.func90 (by decide) rfl (fun w1 hw => of_any A0 c0 l t w1 (hr.up hw.bel) hl1 hok) ?_
 rintro ⟨⟨⟨R9, rc9⟩, o9⟩, hP9, hR91, hR92⟩
 dsimp only [List.cons_append, List.nil_append]
 dsimp only at hP9 hR91 hR92 ⊢
 refine TL.val rfl rfl rfl (gives_makeFunc rfl rfl rfl) ?_
 have hol := hP9.le_
 refine TL.call (α := Unit) (r := fun _ => .slice R9 ((o9.filter fun r => !((fun r : Rs => !(usbRs r && decide (r.flow = flow))) r)).length) rc9) (I' := fun _ => Pm w [.row (.slice R9 ((o9.filter fun r => !((fun r : Rs => !(usbRs r && decide (r.flow = flow))) r)).length) rc9) 65 17 ((o9.filter fun r => !((fun r : Rs => !(usbRs r && decide (r.flow = flow))) r)).length) (flat Rs.cells (o9.filter fun r => !((fun r : Rs => !(usbRs r && decide (r.flow = flow))) r))), .blk g5 3 [.int .i64 flow], .blk g4 32 t.cells]) rfl rfl rfl rfl rfl Tryz.func108 (by decide) rfl (fun w1 hw => (delG_any w [.blk g5 3 [.int .i64 flow], .blk g4 32 t.cells] R9 rc9 o9 (fun r : Rs => !(usbRs r && decide (r.flow = flow))) 123 _ #[.pointer (some ⟨g5, 0, none⟩)] w1 (hw) (by omega) (by omega) (by omega) Tryz.func123 (by decide) rfl (fun x w1 ⟨L1, h9⟩ => (by have h8 : Pm w [.blk g5 3 [.int .i64 flow], .blk g4 32 t.cells] w1 := h9.sel (List.sublist_append_right L1 _); exact strm1_any x flow g5 w1 (Pc.lt (h8.at_ (k := 0) rfl) g5 rfl).2 (h8.cell (k := 0) rfl 0)))).mono fun en w2 ⟨h1, h2⟩ => ⟨(), h1, h2⟩) (fun _ => ?_)
 refine TL.as_ ?_
 refine zET (zr ?_)
 have hE : (o9.filter fun r => !((fun r : Rs => !(usbRs r && decide (r.flow = flow))) r)) = o9.filter fun r => usbRs r && decide (r.flow = flow) := by simp
 exact ret_tmp Tryz.results73 rfl (fun w1 hw => ⟨⟨((R9, rc9), o9.filter fun r => !((fun r : Rs => !(usbRs r && decide (r.flow = flow))) r)), ⟨o9, hP9, hE⟩, Nat.le_trans (List.length_filter_le _ _) hR91, hR92⟩, rfl, hw.pick [0] (by decide) rfl⟩)
set_option maxRecDepth 20000
def BhP (l : List Rs) (u : Ru) (p : Rp) : Prop := p.kind = 1 ∧ ∃ y, IsSt l p.trc p.flow y ∧ bhF y u.los p.at_ = true
theorem blackhole_any (A0 : Option Addr) (c0 : Nat) (l : List Rs) (u : Ru) (p : Rp) (w : World) (hr : Reads w w.heap.size 17 A0 l.length (flat Rs.cells l)) (hl1 : l.length ≤ 100000) (hok : ∀ r ∈ l, r.Ok) :
  Calls Tryz.prog 29 #[.slice A0 l.length c0, .agg u.cells.toArray, .agg p.cells.toArray] w fun e w' => ∃ x : {b : Bool // b = true ↔ BhP l u p}, e = .returned (.bool x.1) ∧ Below w.heap.size w w' := by
 refine begin_ (vs := [.slice A0 l.length c0, .agg u.cells.toArray, .agg p.cells.toArray]) Tryz.func29 rfl rfl rfl ?_ (Pm.start w)
 refine zSG ?_
 refine TL.pnew rfl rfl rfl (exec_box (cs := u.cells) rfl rfl rfl) (fun g4 => ?_)
 refine TL.pnew rfl rfl rfl (exec_box (cs := p.cells) rfl rfl rfl) (fun g5 => ?_)
 refine TL.as_ ?_
 refine zET (zS ?_)
 by_cases hk : p.kind = 1
 ·refine TC.held (ls := #[Ff,Ff,Ff,Ff,Ff,Ff,Ff,Ff,Ff,Ff,Ff,Ff,Ff,Ff,Ff,Ff,Ff]) (Pm w [.blk g5 34 p.cells, .blk g4 28 u.cells]) (by kernel_rfl) rfl rfl (fun w hw => hw.drawn _) ?_
  refine TH.tk 0 rfl rfl rfl (gF arpfld34_0) (fun w1 hw => hw) ?_
  refine TH.tk 1 rfl rfl rfl (gL 0 pcmag3) (fun w1 hw => hw) ?_
  refine TH.tk 2 rfl rfl rfl (gives_bin rfl rfl rfl (fun w => bin_eql_t (hk) w)) (fun w1 hw => hw) ?_
  refine TH.tk 3 rfl rfl rfl (gives_move rfl rfl) (fun w1 hw => hw) ?_
  refine TH.takeG 4 rfl (by kernel_rfl) (by kernel_rfl) (by kernel_rfl) rfl rfl rfl rfl rfl rfl (gives_move rfl rfl) (fun w1 hw => hw) ?_
  refine TH.takeG 5 rfl (by kernel_rfl) (by kernel_rfl) (by kernel_rfl) rfl rfl rfl rfl rfl rfl (gF arpfld34_1) (fun w1 hw => hw) ?_
  refine TH.takeG 6 rfl (by kernel_rfl) (by kernel_rfl) (by kernel_rfl) rfl rfl rfl rfl rfl rfl (gV 0 (.agg #[.int .i64 p.v, .int .u32 p.dst, .int .i64 p.proto]) pcpag32 prssz32) (fun w1 hw => hw) ?_
  refine TH.takeG 7 rfl (by kernel_rfl) (by kernel_rfl) (by kernel_rfl) rfl rfl rfl rfl rfl rfl (gF arpfld34_2) (fun w1 hw => hw) ?_
  refine TH.takeG 8 rfl (by kernel_rfl) (by kernel_rfl) (by kernel_rfl) rfl rfl rfl rfl rfl rfl (gL 0 pcmag3) (fun w1 hw => hw) ?_
  refine TH.takeG 10 rfl (by kernel_rfl) (by kernel_rfl) (by kernel_rfl) rfl rfl rfl rfl rfl rfl (gF arpfld28_0) (fun w1 hw => hw) ?_
  refine TH.takeG 11 rfl (by kernel_rfl) (by kernel_rfl) (by kernel_rfl) rfl rfl rfl rfl rfl rfl (gL 1 pcmag3) (fun w1 hw => hw) ?_
  refine TH.takeG 12 rfl (by kernel_rfl) (by kernel_rfl) (by kernel_rfl) rfl rfl rfl rfl rfl rfl (gF arpfld34_4) (fun w1 hw => hw) ?_
  refine TH.takeG 13 rfl (by kernel_rfl) (by kernel_rfl) (by kernel_rfl) rfl rfl rfl rfl rfl rfl (gL 0 pcmag3) (fun w1 hw => hw) ?_
  refine TH.only' 9 rfl (by kernel_rfl) rfl ?_
  refine TL.gu ?_
  refine TL.pcallPm (α := {y : (Option Addr × Nat) × List Rs // IsSt l p.trc p.flow y.2 ∧ y.2.length ≤ y.1.2 ∧ y.1.2 ≤ maxLen}) (fun x => .slice x.1.1.1 x.1.2.length x.1.1.2) (fun x => [.row (.slice x.1.1.1 x.1.2.length x.1.1.2) 65 17 x.1.2.length (flat Rs.cells x.1.2)]) rfl rfl rfl rfl rfl Tryz.func73 (by decide) rfl (fun w1 hw => stream_any A0 c0 l p.trc p.flow w1 (hr.up hw.bel) hl1 hok) ?_
  rintro ⟨⟨⟨R16, rc16⟩, st16⟩, hP16, hR161, hR162⟩
  dsimp only [List.cons_append, List.nil_append]
  dsimp only at hP16 hR161 hR162 ⊢
  refine zE ?_
  refine TX.held (fun w1 hw => hw.pick [1, 2] (by decide) rfl) ?_
  refine TH.only' 14 rfl (by kernel_rfl) rfl ?_
  refine TL.gu ?_
  refine TL.pcall1 (r := .bool (bhF st16 u.los p.at_)) rfl rfl rfl rfl rfl Tryz.func72 (by decide) rfl (fun w1 hw => blackhole_l R16 rc16 st16 u.los p.at_ w1 (pm_rd hw (k := 0) rfl) (by have := hP16.le; omega)) ?_
  refine zE ?_
  refine TX.he (fun w1 hw => hw.pick [1, 2] (by decide) rfl) fun hS => ?_
  refine TH.t 15 rfl (gives_pick rfl rfl rfl) hS ?_
  refine TH.t 16 rfl (gives_assign rfl rfl) hS ?_
  refine TH.done (by kernel_rfl) ?_
  refine zT (zr ?_)
  exact ret_tmp Tryz.results29 rfl (fun w1 hw => ⟨⟨bhF st16 u.los p.at_, fun h => ⟨hk, st16, hP16, h⟩, fun ⟨_, y, h1, h2⟩ => by rw [hP16.eq h1]; exact h2⟩, rfl, hw.bel⟩)
 refine TC.held (ls := #[Ff,Ff,Ff,Ff,Ff,Ff,Ff,Ff,Ff,Ff,Ff,Ff,Ff,Ff,Ff,Ff,Ff]) (Pm w [.blk g5 34 p.cells, .blk g4 28 u.cells]) (by kernel_rfl) rfl rfl (fun w hw => hw.drawn _) ?_
 refine TH.tk 0 rfl rfl rfl (gF arpfld34_0) (fun w1 hw => hw) ?_
 refine TH.tk 1 rfl rfl rfl (gL 0 pcmag3) (fun w1 hw => hw) ?_
 refine TH.tk 2 rfl rfl rfl (gives_bin rfl rfl rfl (fun w => bin_eql_f (hk) w)) (fun w1 hw => hw) ?_
 refine TH.tk 3 rfl rfl rfl (gives_move rfl rfl) (fun w1 hw => hw) ?_
 refine TH.off 4 rfl (by kernel_rfl) (by kernel_rfl) (by kernel_rfl) rfl rfl rfl rfl rfl rfl rfl (fun w1 hw => hw) ?_
 refine TH.off 5 rfl (by kernel_rfl) (by kernel_rfl) (by kernel_rfl) rfl rfl rfl rfl rfl rfl rfl (fun w1 hw => hw) ?_
 refine TH.off 6 rfl (by kernel_rfl) (by kernel_rfl) (by kernel_rfl) rfl rfl rfl rfl rfl rfl rfl (fun w1 hw => hw) ?_
 refine TH.off 7 rfl (by kernel_rfl) (by kernel_rfl) (by kernel_rfl) rfl rfl rfl rfl rfl rfl rfl (fun w1 hw => hw) ?_
 refine TH.off 8 rfl (by kernel_rfl) (by kernel_rfl) (by kernel_rfl) rfl rfl rfl rfl rfl rfl rfl (fun w1 hw => hw) ?_
 refine TH.off 9 rfl (by kernel_rfl) (by kernel_rfl) (by kernel_rfl) rfl rfl rfl rfl rfl rfl rfl (fun w1 hw => hw) ?_
 refine TH.off 10 rfl (by kernel_rfl) (by kernel_rfl) (by kernel_rfl) rfl rfl rfl rfl rfl rfl rfl (fun w1 hw => hw) ?_
 refine TH.off 11 rfl (by kernel_rfl) (by kernel_rfl) (by kernel_rfl) rfl rfl rfl rfl rfl rfl rfl (fun w1 hw => hw) ?_
 refine TH.off 12 rfl (by kernel_rfl) (by kernel_rfl) (by kernel_rfl) rfl rfl rfl rfl rfl rfl rfl (fun w1 hw => hw) ?_
 refine TH.off 13 rfl (by kernel_rfl) (by kernel_rfl) (by kernel_rfl) rfl rfl rfl rfl rfl rfl rfl (fun w1 hw => hw) ?_
 refine TH.off 14 rfl (by kernel_rfl) (by kernel_rfl) (by kernel_rfl) rfl rfl rfl rfl rfl rfl rfl (fun w1 hw => hw) ?_
 refine TH.tk 15 rfl rfl rfl (gives_pick rfl rfl rfl) (fun w1 hw => hw) ?_
 refine TH.tk 16 rfl rfl rfl (gives_assign rfl rfl) (fun w1 hw => hw) ?_
 refine TH.done (by kernel_rfl) ?_
 refine zT (zr ?_)
 exact ret_tmp Tryz.results29 rfl (fun w1 hw => ⟨⟨false, by simp [BhP, hk]⟩, rfl, hw.bel⟩)
set_option maxRecDepth 20000
def maskF (n : Int) : Int := IntKind.u32.wrap (4294967295 * 2 ^ (32 - n).toNat)
def vldP (a n : Int) : Bool := decide (0 ≤ n) && decide (n ≤ 32) && decide (bits .andNot .u32 a (maskF n) = 0)
def hasP (a n x : Int) : Bool := vldP a n && decide (bits .and .u32 x (maskF n) = a)
def cmpP (a n b m : Int) : Int := if cmpI a b = 0 then cmpI n m else cmpI a b
theorem or2 {a n b m : Int} : orI [cmpI a b, cmpI n m] = cmpP a n b m := by
 unfold cmpP
 show (if cmpI a b = 0 then (if cmpI n m = 0 then 0 else cmpI n m) else cmpI a b) = _
 split
 ·split
  ·rename_i h; exact h.symm
  rfl
 rfl
theorem vldP_le {a n : Int} (h : vldP a n = true) : 0 ≤ n ∧ n ≤ 32 := by
 simp [vldP] at h
 exact ⟨h.1.1, h.1.2⟩
theorem badfld100_1 : FA Tryz.prog 100 1 1 := fun g o w => by kernel_rfl
theorem badfld100_0 : FA Tryz.prog 100 0 0 := fun g o w => by kernel_rfl
theorem badbs106_2_20249 (a0_0 : Int) (a1_0 : Int) (w : World) : (Instr.buildSlice 106 2 #[(0, .int .i64 a0_0), (1, .int .i64 a1_0)]).run Tryz.prog w = .ok (.slice (some ⟨w.heap.size, 0, none⟩) 2 2) (w.alloc (.cells [.int .i64 a0_0, .int .i64 a1_0].toArray 3)) := by kernel_rfl
theorem badag100 (w : World) : (isAgg 100).run Tryz.prog w = .ok true w := rfl
theorem badsz100 (w : World) : (sizeOf 100).run Tryz.prog w = .ok 2 w := rfl
theorem mask_any (n : Int) (h0 : 0 ≤ n) (h1 : n ≤ 32) (w : World) :
  Calls Tryz.prog 191 #[.int .i64 n] w fun e w' => e = .returned (.int .u32 (maskF n)) ∧ w' = w := by
 refine begin_ (vs := [.int .i64 n]) (I := fun w1 => w1 = w) Tryz.func191 rfl rfl rfl ?_ rfl
 refine zSG (TL.as_ ?_)
 refine zET (zSG (TL.mv ?_))
 refine TL.val rfl rfl rfl (gives_bin rfl rfl rfl (fun w => bin_sub_ (r := 32 - n) (by simp only [IntKind.wrap_i64]; omega) w)) ?_
 refine TL.val rfl rfl rfl (gives_bin (v := .int .u32 (maskF n)) rfl rfl rfl (fun w => bin_shl (2 ^ (32 - n).toNat) (by omega) (by simp only [IntKind.bits]; omega) rfl w)) ?_
 refine TL.as_ ?_
 refine zET (zr ?_)
 exact ret_tmp Tryz.results191 rfl (fun w1 hw => ⟨rfl, hw⟩)
theorem vldP_any (a n : Int) (w : World) :
  Calls Tryz.prog 163 #[.agg #[.int .u32 a, .int .i64 n]] w fun e w' => e = .returned (.bool (vldP a n)) ∧ Below w.heap.size w w' := by
 refine begin_ (vs := [.agg #[.int .u32 a, .int .i64 n]]) Tryz.func163 rfl rfl rfl ?_ (Pm.start w)
 refine zSG ?_
 refine TL.pnew rfl rfl rfl (exec_box (cs := [.int .u32 a, .int .i64 n]) rfl rfl rfl) (fun g1 => ?_)
 refine TL.as_ ?_
 refine zET (zS (TC.quietQ (by kernel_rfl) (by kernel_rfl) (fun w hw => hw.drawn _) ?_))
 refine TQ.v (gF badfld100_1) ?_
 refine TQ.v (gL 0 pcmag3) ?_
 refine TQ.sp bin_geq (fun q5 => ?_) (fun q5 => ?_)
 ·refine TQ.val rfl rfl rfl (gives_move rfl rfl) ?_
  refine TQ.ov (gF badfld100_1) ?_
  refine TQ.ov (gL 0 pcmag3) ?_
  refine TQ.on rfl rfl rfl ?_
  refine TQ.sp bin_leq (fun q9 => ?_) (fun q9 => ?_)
  ·refine TQ.rn 2 rfl (TQ.ov (gF badfld100_0) ?_)
   refine TQ.ov (gL 0 pcmag30) ?_
   refine TQ.ov (gF badfld100_1) ?_
   refine TQ.ov (gL 0 pcmag3) ?_
   refine TQ.on rfl rfl rfl ?_
   refine TQ.call (v := .int .u32 (maskF n)) rfl rfl rfl rfl rfl Tryz.func191 (by decide) rfl (fun w1 hw => (still_bel (mask_any n (by omega) (by omega) w1)).mono fun en w2 ⟨h1, h2⟩ => ⟨h1, hw.below h2⟩) ?_
   refine TQ.on rfl rfl rfl ?_
   refine TQ.val rfl rfl rfl (gives_bin rfl rfl rfl (fun w => bin_andNot w)) ?_
   refine TQ.on rfl rfl rfl ?_
   refine TQ.sp bin_eql (fun q18 => ?_) (fun q18 => ?_)
   ·refine TQ.rn 2 rfl ?_
    refine TQ.fin ?_
    refine zT (zr ?_)
    have hE : (vldP a n) = true := (by simp [vldP, q5, q9, q18]; try omega)
    exact ret_tmp Tryz.results163 rfl (fun w1 hw => ⟨by rw [hE]; try rfl, hw.bel⟩)
   refine TQ.rn 2 rfl ?_
   refine TQ.fin ?_
   refine zT (zr ?_)
   have hE : (vldP a n) = false := (by simp [vldP, q5, q9, q18]; try omega)
   exact ret_tmp Tryz.results163 rfl (fun w1 hw => ⟨by rw [hE]; try rfl, hw.bel⟩)
  refine TQ.rn 11 rfl ?_
  refine TQ.fin ?_
  refine zT (zr ?_)
  have hE : (vldP a n) = false := (by simp [vldP, q5, q9]; try omega)
  exact ret_tmp Tryz.results163 rfl (fun w1 hw => ⟨by rw [hE]; try rfl, hw.bel⟩)
 refine TQ.rn 15 rfl ?_
 refine TQ.fin ?_
 refine zT (zr ?_)
 have hE : (vldP a n) = false := (by simp [vldP, q5]; try omega)
 exact ret_tmp Tryz.results163 rfl (fun w1 hw => ⟨by rw [hE]; try rfl, hw.bel⟩)
theorem cmpP_any (a n b m : Int) (w : World) :
  Calls Tryz.prog 130 #[.agg #[.int .u32 a, .int .i64 n], .agg #[.int .u32 b, .int .i64 m]] w fun e w' => e = .returned (.int .i64 (cmpP a n b m)) ∧ Below w.heap.size w w' := by
 refine begin_ (vs := [.agg #[.int .u32 a, .int .i64 n], .agg #[.int .u32 b, .int .i64 m]]) Tryz.func130 rfl rfl rfl ?_ (Pm.start w)
 refine zSG ?_
 refine TL.pnew rfl rfl rfl (exec_box (cs := [.int .u32 a, .int .i64 n]) rfl rfl rfl) (fun g2 => ?_)
 refine TL.pnew rfl rfl rfl (exec_box (cs := [.int .u32 b, .int .i64 m]) rfl rfl rfl) (fun g3 => ?_)
 refine TL.as_ ?_
 refine zET (zS (TC.tail 10 (by kernel_rfl) (by kernel_rfl) (fun w hw => hw.drawn _) ?_))
 refine TS.v (gF badfld100_0) ?_
 refine TS.v (gL 1 pcmag30) ?_
 refine TS.v (gF badfld100_0) ?_
 refine TS.v (gL 0 pcmag30) ?_
 refine TS.call (r := .int .i64 (cmpI a b)) rfl rfl rfl rfl rfl Tryz.func80 (by decide) rfl (fun w1 hw => cmpA_any a b w1) ?_
 refine TS.v (gF badfld100_1) ?_
 refine TS.v (gL 1 pcmag3) ?_
 refine TS.v (gF badfld100_1) ?_
 refine TS.v (gL 0 pcmag3) ?_
 refine TS.call (r := .int .i64 (cmpI n m)) rfl rfl rfl rfl rfl Tryz.func79 (by decide) rfl (fun w1 hw => cmpI_any n m w1) ?_
 refine TS.end_ ?_
 refine TL.prowS (e := 3) (size := 1) (cs := flat (ic .i64) [cmpI a b, cmpI n m]) rfl rfl rfl rfl rfl (fun w => badbs106_2_20249 _ _ w) (by decide) rfl (fun g15 => ?_)
 refine TL.pcall1 (r := .int .i64 (cmpP a n b m)) rfl rfl rfl rfl rfl Tryz.func78 (by decide) rfl (fun w1 hw => (by have h9 := orI_any (some ⟨g15, 0, none⟩) 2 2 ([cmpI a b, cmpI n m]) w1 (pm_rd hw (k := 0) rfl) rfl (by show 2 ≤ 100000; decide); rw [or2] at h9; exact h9)) ?_
 refine TL.as_ ?_
 refine zET (zr ?_)
 have hE : (cmpP a n b m) = cmpP a n b m := (by simp [cmpP])
 exact ret_tmp Tryz.results130 rfl (fun w1 hw => ⟨by rw [hE]; try rfl, hw.bel⟩)
theorem hasP_any (a n x : Int) (w : World) :
  Calls Tryz.prog 216 #[.agg #[.int .u32 a, .int .i64 n], .int .u32 x] w fun e w' => e = .returned (.bool (hasP a n x)) ∧ Below w.heap.size w w' := by
 refine begin_ (vs := [.agg #[.int .u32 a, .int .i64 n], .int .u32 x]) Tryz.func216 rfl rfl rfl ?_ (Pm.start w)
 refine zSG ?_
 refine TL.pnew rfl rfl rfl (exec_box (cs := [.int .u32 a, .int .i64 n]) rfl rfl rfl) (fun g2 => ?_)
 refine TL.as_ ?_
 refine zET (zS (TC.quietQ (by kernel_rfl) (by kernel_rfl) (fun w hw => hw.drawn _) ?_))
 refine TQ.v (gV 0 (.agg #[.int .u32 a, .int .i64 n]) badag100 badsz100) ?_
 refine TQ.callsplit rfl rfl rfl rfl rfl Tryz.func163 (by decide) rfl (fun w1 hw => vldP_any a n w1) (fun h6 => ?_) (fun h6 => ?_)
 ·have hn0 := vldP_le h6
  refine TQ.rn 2 rfl (TQ.ov (gF badfld100_1) ?_)
  refine TQ.ov (gL 0 pcmag3) ?_
  refine TQ.on rfl rfl rfl ?_
  refine TQ.call (v := .int .u32 (maskF n)) rfl rfl rfl rfl rfl Tryz.func191 (by decide) rfl (fun w1 hw => (still_bel (mask_any n (by omega) (by omega) w1)).mono fun en w2 ⟨h1, h2⟩ => ⟨h1, hw.below h2⟩) ?_
  refine TQ.on rfl rfl rfl ?_
  refine TQ.val rfl rfl rfl (gives_bin rfl rfl rfl (fun w => bin_bits (by simp) w)) ?_
  refine TQ.ov (gF badfld100_0) ?_
  refine TQ.ov (gL 0 pcmag30) ?_
  refine TQ.on rfl rfl rfl ?_
  refine TQ.sp bin_eql (fun q15 => ?_) (fun q15 => ?_)
  ·refine TQ.rn 2 rfl ?_
   refine TQ.fin ?_
   refine zT (zr ?_)
   have hE : (hasP a n x) = true := (by simp [hasP, h6, q15]; try omega)
   exact ret_tmp Tryz.results216 rfl (fun w1 hw => ⟨by rw [hE]; try rfl, hw.bel⟩)
  refine TQ.rn 2 rfl ?_
  refine TQ.fin ?_
  refine zT (zr ?_)
  have hE : (hasP a n x) = false := (by simp [hasP, h6, q15]; try omega)
  exact ret_tmp Tryz.results216 rfl (fun w1 hw => ⟨by rw [hE]; try rfl, hw.bel⟩)
 refine TQ.rn 11 rfl ?_
 refine TQ.fin ?_
 refine zT (zr ?_)
 have hE : (hasP a n x) = false := (by simp [hasP, h6]; try omega)
 exact ret_tmp Tryz.results216 rfl (fun w1 hw => ⟨by rw [hE]; try rfl, hw.bel⟩)
set_option maxRecDepth 20000
structure En where
 addr : Int
 len : Int
 prov : Int
 frm : Int
 to_ : Int
deriving DecidableEq
def En.cells (r : En) : List Value := [.int .u32 r.addr, .int .i64 r.len, .int .i64 r.prov, .int .i64 r.frm, .int .i64 r.to_]
theorem en_cel : Cel En.cells 5 := ⟨fun _ => rfl, fun r u hu => by
 simp only [En.cells, List.mem_cons, List.not_mem_nil, or_false] at hu
 rcases hu with rfl | rfl | rfl | rfl | rfl <;> rfl⟩
def En.zero : En := ⟨0, 0, 0, 0, 0⟩
def validE (e : En) : Bool := vldP e.addr e.len && decide (1 ≤ e.prov) && decide (e.prov ≤ 2147483647) && decide (0 ≤ e.frm) && decide (e.frm < e.to_) && decide (e.to_ ≤ 1125899906842624)
def badP (b x : En) : Bool := decide (cmpP b.addr b.len x.addr x.len > 0) || (decide (cmpP b.addr b.len x.addr x.len = 0) && decide (x.frm < b.to_))
def okAt (es : List En) (i : Nat) : Bool := match es[i]? with
 | none => true
 | some x => validE x && (decide (i = 0) || match es[i - 1]? with
  | none => true
  | some b => !badP b x)
def validR (es : List En) : Bool := decide (es.length ≤ 1024) && (List.range es.length).all (okAt es)
theorem okAt_bad {es : List En} {i : Nat} {x : En} (hx : es[i]? = some x) (h : validE x = false) : okAt es i = false := by simp [okAt, hx, h]
theorem okAt_zero {es : List En} {x : En} {i : Nat} (hi : i = 0) (hx : es[i]? = some x) (h : validE x = true) : okAt es i = true := by subst hi; simp [okAt, hx, h]
theorem okAt_pair {es : List En} {x b : En} {i : Nat} {t : Bool} (hi : ¬ i = 0) (hx : es[i]? = some x) (hb : es[i - 1]? = some b) (h : validE x = true) (ht : badP b x = !t) : okAt es i = t := by simp [okAt, hx, hb, h, hi, ht]
theorem validR_true {es : List En} (hl : es.length ≤ 1024) (h : ∀ j, j < es.length → okAt es j = true) : validR es = true := by
 simp only [validR, Bool.and_eq_true, decide_eq_true_eq, List.all_eq_true, List.mem_range]
 exact ⟨hl, h⟩
theorem validR_false {es : List En} {i : Nat} (hi : i < es.length) (h : okAt es i = false) : validR es = false := by
 cases hv : validR es with
 | false => rfl
 | true =>
  simp only [validR, Bool.and_eq_true, decide_eq_true_eq, List.all_eq_true, List.mem_range] at hv
  rw [hv.2 i hi] at h; cases h
theorem validR_len {es : List En} (h : validR es = true) : es.length ≤ 1024 := by
 simp only [validR, Bool.and_eq_true, decide_eq_true_eq] at h
 exact h.1
def fitsE (a t : Int) (p : En × Bool) (e : En) : Bool := decide (e.frm ≤ t) && decide (t < e.to_) && (!p.2 || decide (e.len > p.1.len)) && hasP e.addr e.len a
def stepL (a t : Int) (p : En × Bool) (e : En) : En × Bool := if fitsE a t p e then (e, true) else p
def lookR (es : List En) (a t : Int) : En × Bool := es.foldl (stepL a t) (En.zero, false)
theorem lookR_snoc {es : List En} {a t : Int} {i : Nat} {x : En} {p : En × Bool} (hx : es[i]? = some x) (hp : lookR (es.take i) a t = p) : lookR (es.take (i + 1)) a t = if fitsE a t p x then (x, true) else p := by
 unfold lookR at hp ⊢
 rw [List.take_add_one, hx, List.foldl_append, hp]
 rfl
def lookV (es : List En) (a t : Int) : En × Bool := if validR es then lookR es a t else (En.zero, false)
def provR (es : List En) (a t : Int) : Int := (lookV es a t).1.prov
theorem brefld102_0 : FA Tryz.prog 102 0 0 := fun g o w => by kernel_rfl
theorem brefld102_1 : FA Tryz.prog 102 1 2 := fun g o w => by kernel_rfl
theorem brefld102_2 : FA Tryz.prog 102 2 3 := fun g o w => by kernel_rfl
theorem brefld102_3 : FA Tryz.prog 102 3 4 := fun g o w => by kernel_rfl
theorem brefld26_0 : FA Tryz.prog 26 0 0 := fun g o w => by kernel_rfl
theorem breag24 (w : World) : (isAgg 24).run Tryz.prog w = .ok false w := rfl
theorem bresz102 (w : World) : (sizeOf 102).run Tryz.prog w = .ok 5 w := rfl
theorem breag102 (w : World) : (isAgg 102).run Tryz.prog w = .ok true w := rfl
theorem brezv102 (w : World) : (zeroValue 102).run Tryz.prog w = .ok (.agg #[.int .u32 0, .int .i64 0, .int .i64 0, .int .i64 0, .int .i64 0]) w := rfl
theorem breag26 (w : World) : (isAgg 26).run Tryz.prog w = .ok true w := rfl
theorem bresz26 (w : World) : (sizeOf 26).run Tryz.prog w = .ok 1 w := rfl
theorem brebld102_791  (w : World) : (Instr.build 102 #[]).run Tryz.prog w = .ok (.agg #[.int .u32 0, .int .i64 0, .int .i64 0, .int .i64 0, .int .i64 0]) w := by kernel_rfl
theorem breone_u32i64i64i64i64 {a0 : Int} {a1 : Int} {a2 : Int} {a3 : Int} {a4 : Int} : ∀ u ∈ [(.int .u32 a0 : Value), .int .i64 a1, .int .i64 a2, .int .i64 a3, .int .i64 a4], u.oneCell' = true := by
 intro u hu
 simp only [List.mem_cons, List.not_mem_nil, or_false] at hu
 rcases hu with rfl | rfl | rfl | rfl | rfl <;> rfl
theorem validE_any (x : En) (w : World) :
  Calls Tryz.prog 129 #[.agg x.cells.toArray] w fun e w' => e = .returned (.bool (validE x)) ∧ Below w.heap.size w w' := by
 refine begin_ (vs := [.agg x.cells.toArray]) Tryz.func129 rfl rfl rfl ?_ (Pm.start w)
 refine zSG ?_
 refine TL.pnew rfl rfl rfl (exec_box (cs := x.cells) rfl rfl rfl) (fun g1 => ?_)
 refine TL.as_ ?_
 refine zET (zSG (TL.v (gF brefld102_0) ?_))
 refine TL.v (gV 0 (.agg #[.int .u32 x.addr, .int .i64 x.len]) badag100 badsz100) ?_
 refine TL.callsplit rfl rfl rfl rfl rfl Tryz.func163 (by decide) rfl (fun w1 hw => vldP_any x.addr x.len w1) (fun h5 => ?_) (fun h5 => ?_)
 ·refine TL.mv ?_
  refine TL.ov (gF brefld102_1) ?_
  refine TL.ov (gL 0 pcmag3) ?_
  refine TL.gu ?_
  refine TL.sp bin_geq (fun q9 => ?_) (fun q9 => ?_)
  ·refine TL.rn 2 rfl (TL.ov (gF brefld102_1) ?_)
   refine TL.ov (gL 0 pcmag3) ?_
   refine TL.gu ?_
   refine TL.sp bin_leq (fun q14 => ?_) (fun q14 => ?_)
   ·refine TL.rn 2 rfl (TL.ov (gF brefld102_2) ?_)
    refine TL.ov (gL 0 pcmag3) ?_
    refine TL.gu ?_
    refine TL.sp bin_geq (fun q19 => ?_) (fun q19 => ?_)
    ·refine TL.rn 2 rfl (TL.ov (gF brefld102_2) ?_)
     refine TL.ov (gL 0 pcmag3) ?_
     refine TL.ov (gF brefld102_3) ?_
     refine TL.ov (gL 0 pcmag3) ?_
     refine TL.gu ?_
     refine TL.sp bin_lss (fun q26 => ?_) (fun q26 => ?_)
     ·refine TL.rn 2 rfl (TL.ov (gF brefld102_3) ?_)
      refine TL.ov (gL 0 pcmag3) ?_
      refine TL.gu ?_
      refine TL.sp bin_leq (fun q31 => ?_) (fun q31 => ?_)
      ·refine TL.rn 2 rfl (zET (zr ?_))
       have hE : (validE x) = true := (by simp [validE, h5, q9, q14, q19, q26, q31]; try omega)
       exact ret_tmp Tryz.results129 rfl (fun w1 hw => ⟨by rw [hE]; try rfl, hw.bel⟩)
      refine TL.rn 2 rfl (zET (zr ?_))
      have hE : (validE x) = false := (by simp [validE, h5, q9, q14, q19, q26, q31]; try omega)
      exact ret_tmp Tryz.results129 rfl (fun w1 hw => ⟨by rw [hE]; try rfl, hw.bel⟩)
     refine TL.rn 7 rfl (zET (zr ?_))
     have hE : (validE x) = false := (by simp [validE, h5, q9, q14, q19, q26]; try omega)
     exact ret_tmp Tryz.results129 rfl (fun w1 hw => ⟨by rw [hE]; try rfl, hw.bel⟩)
    refine TL.rn 14 rfl (zET (zr ?_))
    have hE : (validE x) = false := (by simp [validE, h5, q9, q14, q19]; try omega)
    exact ret_tmp Tryz.results129 rfl (fun w1 hw => ⟨by rw [hE]; try rfl, hw.bel⟩)
   refine TL.rn 19 rfl (zET (zr ?_))
   have hE : (validE x) = false := (by simp [validE, h5, q9, q14]; try omega)
   exact ret_tmp Tryz.results129 rfl (fun w1 hw => ⟨by rw [hE]; try rfl, hw.bel⟩)
  refine TL.rn 24 rfl (zET (zr ?_))
  have hE : (validE x) = false := (by simp [validE, h5, q9]; try omega)
  exact ret_tmp Tryz.results129 rfl (fun w1 hw => ⟨by rw [hE]; try rfl, hw.bel⟩)
 refine TL.rn 28 rfl (zET (zr ?_))
 have hE : (validE x) = false := (by simp [validE, h5]; try omega)
 exact ret_tmp Tryz.results129 rfl (fun w1 hw => ⟨by rw [hE]; try rfl, hw.bel⟩)
theorem okN {es : List En} {i : Nat} (h : ∀ j, j < i → okAt es j = true) (hi : okAt es i = true) : ∀ j, j < i + 1 → okAt es j = true := fun j hj => by
 rcases Nat.lt_or_ge j i with h1 | h1
 ·exact h j h1
 obtain rfl : j = i := by omega
 exact hi
theorem validR_any (A0 : Option Addr) (c0 : Nat) (es : List En) (w : World) (hr : Reads w w.heap.size 5 A0 es.length (flat En.cells es)) :
  Calls Tryz.prog 84 #[.agg #[.slice A0 es.length c0]] w fun e w' => e = .returned (.bool (validR es)) ∧ Below w.heap.size w w' := by
 refine begin_ (vs := [.agg #[.slice A0 es.length c0]]) Tryz.func84 rfl rfl rfl ?_ (Pm.start w)
 refine zSG ?_
 refine TL.pnew rfl rfl rfl (exec_box (cs := [.slice A0 es.length c0]) rfl rfl rfl) (fun g1 => ?_)
 refine TL.as_ ?_
 refine zET (zS (zSG (TL.v (gF brefld26_0) ?_)))
 refine TL.v (gL 0 breag24) ?_
 refine TL.v (gN Tryz.underlying24) ?_
 refine TL.sp bin_gtr (fun q10 => ?_) (fun q10 => ?_)
 ·refine zET (zc (zSG (TL.as_ ?_)))
  refine zET (zr (zR ?_))
  have hE : validR es = false := by simp only [validR, decide_eq_false (show ¬ es.length ≤ 1024 by omega), Bool.false_and]
  exact ret_tmp Tryz.results84 rfl (fun w1 hw => ⟨by rw [hE], hw.bel⟩)
 refine zET (zd (zk (zT (zS (zSG (TL.v (gF brefld26_0) ?_))))))
 refine TL.v (gL 0 breag24) ?_
 refine TL.v (gN Tryz.underlying24) ?_
 refine TL.mv ?_
 refine zET (zB (TC.loop_ (α := {i : Nat // i ≤ es.length ∧ ∀ j, j < i → okAt es j = true}) (fun y => [(1, .pointer (some ⟨g1, 0, none⟩)), (12, .slice A0 es.length c0), (13, .int .i64 (es.length : Nat)), (14, .int .i64 ((y.1 : Nat) : Int))]) (fun y => Pm w [.blk g1 26 [.slice A0 es.length c0]]) (fun y => es.length - y.1) (⟨0, Nat.zero_le _, fun j hj => absurd hj (Nat.not_lt_zero _)⟩) ⟨rfl, rfl, rfl, rfl, trivial⟩ (fun w1 hw => hw) ?_))
 rintro ⟨i, hi, hok⟩
 try dsimp only at hi hok ⊢
 refine zSG ?_
 refine TL.sp bin_lss (fun q15 => ?_) (fun q15 => ?_)
 ·refine zET (zS (zc (zk (zT (zS (zB (zSG (TL.mv ?_))))))))
  have hi17 : i < es.length := by omega
  obtain ⟨x17, hx17⟩ := ex_at hi17
  obtain ⟨b17, o17, hA17, hbb17, hc17⟩ := hr.ad (by omega) (by decide)
  refine TL.val rfl rfl rfl (gA (i := i) Tryz.underlying24 bresz102 rfl rfl rfl rfl hA17 (by omega)) ?_
  refine TL.v (gR en_cel breag102 bresz102 hbb17 hx17 hc17) ?_
  refine TL.pnew rfl rfl rfl (exec_alloc (cs := [.int .u32 0, .int .i64 0, .int .i64 0, .int .i64 0, .int .i64 0]) rfl brezv102 rfl) (fun g4 => ?_)
  refine TL.as_ ?_
  refine TL.pstore (k := 0) (vs := x17.cells) rfl rfl rfl rfl rfl rfl rfl bresz102 (en_cel.one _) (by show 5 ≤ 5; decide) (L' := [.blk g4 102 x17.cells, .blk g1 26 [.slice A0 es.length c0]]) rfl ?_
  refine zET (zS (zSG (TL.v (gV 0 (.agg (x17.cells).toArray) breag102 bresz102) ?_)))
  refine TL.callsplit rfl rfl rfl rfl rfl Tryz.func129 (by decide) rfl (fun w1 hw => validE_any x17 w1) (fun h20 => ?_) (fun h20 => ?_)
  ·refine TL.val rfl rfl rfl (gives_boolnot rfl rfl) ?_
   refine zET (zd (zk (zT (zS (zSG (TL.mv ?_))))))
   refine TL.sp bin_eql (fun q23 => ?_) (fun q23 => ?_)
   ·refine zET (zc (zx (zX (zM (zT (zG (TL.v (gD ((i + 1 : Nat) : Int)) ?_)))))))
    refine TL.mv ?_
    refine zE ?_
    exact TX.round (⟨i + 1, by omega, okN hok (okAt_zero (by omega) hx17 h20)⟩) (by show es.length - (i + 1) < es.length - i; omega) ⟨rfl, rfl, rfl, rfl, trivial⟩ (fun w1 hw => hw.pick [1] (by decide) rfl)
   refine zET (zd (zk (zT (zSG (TL.v (gF brefld26_0) ?_)))))
   refine TL.v (gL 1 breag24) ?_
   refine TL.mv ?_
   refine TL.val rfl rfl rfl (gives_bin rfl rfl rfl (fun w => bin_sub_ (r := ((i - 1 : Nat) : Int)) (by simp only [IntKind.wrap_i64]; omega) w)) ?_
   have hi28 : i - 1 < es.length := by omega
   obtain ⟨x28, hx28⟩ := ex_at hi28
   obtain ⟨b28, o28, hA28, hbb28, hc28⟩ := hr.ad (by omega) (by decide)
   refine TL.val rfl rfl rfl (gA (i := (i - 1)) Tryz.underlying24 bresz102 rfl rfl rfl rfl hA28 (by omega)) ?_
   refine TL.val rfl rfl rfl (gives_loadR (off := o28 + (i - 1) * 5) rfl rfl breag102 bresz102 (en_cel.len x28) (fun w1 hw j9 u9 h9 => (hw.bel.cell hbb28).trans <| flat_cell en_cel hx28 hc28 j9 u9 h9)) ?_
   refine TL.pnew rfl rfl rfl (exec_alloc (cs := [.int .u32 0, .int .i64 0, .int .i64 0, .int .i64 0, .int .i64 0]) rfl brezv102 rfl) (fun g5 => ?_)
   refine TL.pstore (k := 0) (vs := x28.cells) rfl rfl rfl rfl rfl rfl rfl bresz102 (en_cel.one _) (by show 5 ≤ 5; decide) (L' := [.blk g5 102 x28.cells, .blk g4 102 x17.cells, .blk g1 26 [.slice A0 es.length c0]]) rfl ?_
   refine zET (zSG (TL.v (gF brefld102_0) ?_))
   refine TL.v (gV 0 (.agg #[.int .u32 x28.addr, .int .i64 x28.len]) badag100 badsz100) ?_
   refine TL.v (gF brefld102_0) ?_
   refine TL.v (gV 1 (.agg #[.int .u32 x17.addr, .int .i64 x17.len]) badag100 badsz100) ?_
   refine TL.pcall1 (r := .int .i64 (cmpP x28.addr x28.len x17.addr x17.len)) rfl rfl rfl rfl rfl Tryz.func130 (by decide) rfl (fun w1 hw => cmpP_any x28.addr x28.len x17.addr x17.len w1) ?_
   refine TL.as_ ?_
   refine zET (zSG (TL.mv ?_))
   refine TL.sp bin_gtr (fun q36 => ?_) (fun q36 => ?_)
   ·refine TL.rn 4 rfl ?_
    refine TL.offU rfl rfl rfl rfl rfl ?_
    refine TL.offU rfl rfl rfl rfl rfl ?_
    refine TL.offU rfl rfl rfl rfl rfl ?_
    refine TL.offU rfl rfl rfl rfl rfl ?_
    refine TL.offU rfl rfl rfl rfl rfl ?_
    refine TL.rn 2 rfl (zET (zc (zSG (TL.as_ ?_))))
    refine zET (zr (zRR (zR (zRR ?_))))
    have hE : validR es = false := validR_false hi17 (okAt_pair (t := false) (by omega) hx17 hx28 h20 (by simp [badP, q15, h20, q23, q36]))
    exact ret_tmp Tryz.results84 rfl (fun w1 hw => ⟨by rw [hE], hw.bel⟩)
   refine TL.rn 2 rfl (TL.gu ?_)
   refine TL.sp bin_eql (fun q39 => ?_) (fun q39 => ?_)
   ·refine TL.rn 1 rfl (TL.ov (gF brefld102_2) ?_)
    refine TL.ov (gL 1 pcmag3) ?_
    refine TL.ov (gF brefld102_3) ?_
    refine TL.ov (gL 0 pcmag3) ?_
    refine TL.gu ?_
    refine TL.sp bin_lss (fun q45 => ?_) (fun q45 => ?_)
    ·refine TL.rn 2 rfl (zET (zc (zSG (TL.as_ ?_))))
     refine zET (zr (zRR (zR (zRR ?_))))
     have hE : validR es = false := validR_false hi17 (okAt_pair (t := false) (by omega) hx17 hx28 h20 (by simp [badP, q15, h20, q23, q36, q39, q45]))
     exact ret_tmp Tryz.results84 rfl (fun w1 hw => ⟨by rw [hE], hw.bel⟩)
    refine TL.rn 2 rfl (zET (zd (zk (zN (zT (zG (TL.v (gD ((i + 1 : Nat) : Int)) ?_)))))))
    refine TL.mv ?_
    refine zE ?_
    exact TX.round (⟨i + 1, by omega, okN hok (okAt_pair (t := true) (by omega) hx17 hx28 h20 (by simp [badP, q15, h20, q23, q36, q39, q45]))⟩) (by show es.length - (i + 1) < es.length - i; omega) ⟨rfl, rfl, rfl, rfl, trivial⟩ (fun w1 hw => hw.pick [2] (by decide) rfl)
   refine TL.rn 8 rfl (zET (zd (zk (zN (zT (zG (TL.v (gD ((i + 1 : Nat) : Int)) ?_)))))))
   refine TL.mv ?_
   refine zE ?_
   exact TX.round (⟨i + 1, by omega, okN hok (okAt_pair (t := true) (by omega) hx17 hx28 h20 (by simp [badP, q15, h20, q23, q36, q39]))⟩) (by show es.length - (i + 1) < es.length - i; omega) ⟨rfl, rfl, rfl, rfl, trivial⟩ (fun w1 hw => hw.pick [2] (by decide) rfl)
  refine TL.val rfl rfl rfl (gives_boolnot rfl rfl) ?_
  refine zET (zc (zSG (TL.as_ ?_)))
  refine zET (zr (zR (zRR (zR (zRR ?_)))))
  have hE : validR es = false := validR_false hi17 (okAt_bad hx17 h20)
  exact ret_tmp Tryz.results84 rfl (fun w1 hw => ⟨by rw [hE], hw.bel⟩)
 refine zET (zS (zd (zx (zX (zX (zM (zT (zSG (TL.as_ ?_)))))))))
 refine zET (zr ?_)
 have hE : validR es = true := validR_true (by omega) (fun j hj => hok j (by omega))
 exact ret_tmp Tryz.results84 rfl (fun w1 hw => ⟨by rw [hE], hw.bel⟩)
theorem lookR_any (A0 : Option Addr) (c0 : Nat) (es : List En) (a t : Int) (w : World) (hr : Reads w w.heap.size 5 A0 es.length (flat En.cells es)) (hl1 : es.length ≤ 100000) :
  Calls Tryz.prog 189 #[.agg #[.slice A0 es.length c0], .int .u32 a, .int .i64 t] w fun e w' => e = .returned (.tuple #[.agg (lookR es a t).1.cells.toArray, .bool (lookR es a t).2]) ∧ Below w.heap.size w w' := by
 refine begin_ (vs := [.agg #[.slice A0 es.length c0], .int .u32 a, .int .i64 t]) Tryz.func189 rfl rfl rfl ?_ (Pm.start w)
 refine zSG ?_
 refine TL.pnew rfl rfl rfl (exec_box (cs := [.slice A0 es.length c0]) rfl rfl rfl) (fun g3 => ?_)
 refine TL.pnew rfl rfl rfl (exec_alloc (cs := En.zero.cells) rfl brezv102 rfl) (fun g6 => ?_)
 refine TL.as_ ?_
 refine zET (zSG ?_)
 refine TL.pnew rfl rfl rfl (exec_alloc (cs := En.zero.cells) rfl brezv102 rfl) (fun g8 => ?_)
 refine zET (zSG (TL.as_ ?_))
 refine zET (zS (zSG (TL.v (gF brefld26_0) ?_)))
 refine TL.v (gL 2 breag24) ?_
 refine TL.v (gN Tryz.underlying24) ?_
 refine TL.mv ?_
 refine zET (zB (TC.loop_ (α := {y : Nat × En × Bool // y.1 ≤ es.length ∧ lookR (es.take y.1) a t = y.2}) (fun y => [(1, .int .u32 a), (2, .int .i64 t), (6, .pointer (some ⟨g6, 0, none⟩)), (8, .pointer (some ⟨g8, 0, none⟩)), (13, .slice A0 es.length c0), (14, .int .i64 (es.length : Nat)), (15, .int .i64 ((y.1.1 : Nat) : Int)), (9, .bool y.1.2.2)]) (fun y => Pm w [.blk g8 102 y.1.2.1.cells, .blk g6 102 En.zero.cells, .blk g3 26 [.slice A0 es.length c0]]) (fun y => es.length - y.1.1) (⟨(0, En.zero, false), Nat.zero_le _, rfl⟩) ⟨rfl, rfl, rfl, rfl, rfl, rfl, rfl, rfl, trivial⟩ (fun w1 hw => hw) ?_))
 rintro ⟨⟨i, bst, fnd⟩, hi, hst⟩
 dsimp only at hi hst ⊢
 refine zSG ?_
 refine TL.sp bin_lss (fun q16 => ?_) (fun q16 => ?_)
 ·refine zET (zS (zc (zk (zT (zS (zB (zSG ?_)))))))
  have hi17 : i < es.length := by omega
  obtain ⟨x17, hx17⟩ := ex_at hi17
  obtain ⟨b17, o17, hA17, hbb17, hc17⟩ := hr.ad (by omega) (by decide)
  refine TL.val rfl rfl rfl (gA (i := i) Tryz.underlying24 bresz102 rfl rfl rfl rfl hA17 (by omega)) ?_
  refine TL.v (gR en_cel breag102 bresz102 hbb17 hx17 hc17) ?_
  refine TL.pnew rfl rfl rfl (exec_alloc (cs := En.zero.cells) rfl brezv102 rfl) (fun g11 => ?_)
  refine TL.pstore (k := 0) (vs := x17.cells) rfl rfl rfl rfl rfl rfl rfl bresz102 (en_cel.one _) (by show 5 ≤ 5; decide) (L' := [.blk g11 102 x17.cells, .blk g8 102 bst.cells, .blk g6 102 En.zero.cells, .blk g3 26 [.slice A0 es.length c0]]) rfl ?_
  refine zET (zS ?_)
  cases fnd with
  | true =>
   refine zG (TL.v (gF brefld102_2) ?_)
   refine TL.v (gL 0 pcmag3) ?_
   refine TL.mv ?_
   refine TL.sp bin_leq (fun q22 => ?_) (fun q22 => ?_)
   ·refine TL.rn 2 rfl (TL.ov (gF brefld102_3) ?_)
    refine TL.ov (gL 0 pcmag3) ?_
    refine TL.gu ?_
    refine TL.sp bin_lss (fun q27 => ?_) (fun q27 => ?_)
    ·refine TL.rn 5 rfl (TL.ov (gF brefld102_0) ?_)
     refine TL.ov (gF badfld100_1) ?_
     refine TL.ov (gL 0 pcmag3) ?_
     refine TL.ov (gF brefld102_0) ?_
     refine TL.ov (gF badfld100_1) ?_
     refine TL.ov (gL 1 pcmag3) ?_
     refine TL.gu ?_
     refine TL.sp bin_gtr (fun q39 => ?_) (fun q39 => ?_)
     ·refine TL.rn 3 rfl (TL.ov (gF brefld102_0) ?_)
      refine TL.ov (gV 0 (.agg #[.int .u32 x17.addr, .int .i64 x17.len]) badag100 badsz100) ?_
      refine TL.rn 1 rfl (TL.gu ?_)
      refine TL.callsplit rfl rfl rfl rfl rfl Tryz.func216 (by decide) rfl (fun w1 hw => hasP_any x17.addr x17.len a w1) (fun h46 => ?_) (fun h46 => ?_)
      ·refine TL.pk ?_
       refine zET (zc (zG (TL.v (gV 0 (.agg (x17.cells).toArray) breag102 bresz102) ?_)))
       refine TL.pstore (k := 1) (vs := x17.cells) rfl rfl rfl rfl rfl rfl rfl bresz102 (en_cel.one _) (by show 5 ≤ 5; decide) (L' := [.blk g11 102 x17.cells, .blk g8 102 x17.cells, .blk g6 102 En.zero.cells, .blk g3 26 [.slice A0 es.length c0]]) rfl ?_
       refine TL.as_ ?_
       refine zE (zN (zT (zG (TL.v (gD ((i + 1 : Nat) : Int)) ?_))))
       refine TL.mv ?_
       refine zE ?_
       exact TX.round (⟨(i + 1, x17, true), by dsimp only; omega, by rw [lookR_snoc hx17 hst, if_pos (by simp [fitsE, q16, q22, q27, q39, h46])]⟩) (by show es.length - (i + 1) < es.length - i; omega) ⟨rfl, rfl, rfl, rfl, rfl, rfl, rfl, rfl, trivial⟩ (fun w1 hw => hw.pick [1, 2, 3] (by decide) rfl)
      refine TL.pk ?_
      refine zET (zd (zk (zN (zT (zG (TL.v (gD ((i + 1 : Nat) : Int)) ?_))))))
      refine TL.mv ?_
      refine zE ?_
      exact TX.round (⟨(i + 1, bst, true), by dsimp only; omega, by rw [lookR_snoc hx17 hst, if_neg (by simp [fitsE, q16, q22, q27, q39, h46])]⟩) (by show es.length - (i + 1) < es.length - i; omega) ⟨rfl, rfl, rfl, rfl, rfl, rfl, rfl, rfl, trivial⟩ (fun w1 hw => hw.pick [1, 2, 3] (by decide) rfl)
     refine TL.rn 8 rfl (zET (zd (zk (zN (zT (zG (TL.v (gD ((i + 1 : Nat) : Int)) ?_)))))))
     refine TL.mv ?_
     refine zE ?_
     exact TX.round (⟨(i + 1, bst, true), by dsimp only; omega, by rw [lookR_snoc hx17 hst, if_neg (by simp [fitsE, q16, q22, q27, q39])]⟩) (by show es.length - (i + 1) < es.length - i; omega) ⟨rfl, rfl, rfl, rfl, rfl, rfl, rfl, rfl, trivial⟩ (fun w1 hw => hw.pick [1, 2, 3] (by decide) rfl)
    refine TL.rn 5 rfl ?_
    refine TL.offU rfl rfl rfl rfl rfl ?_
    refine TL.offU rfl rfl rfl rfl rfl ?_
    refine TL.offU rfl rfl rfl rfl rfl ?_
    refine TL.offU rfl rfl rfl rfl rfl ?_
    refine TL.offU rfl rfl rfl rfl rfl ?_
    refine TL.offU rfl rfl rfl rfl rfl ?_
    refine TL.offU rfl rfl rfl rfl rfl ?_
    refine TL.rn 8 rfl (zET (zd (zk (zN (zT (zG (TL.v (gD ((i + 1 : Nat) : Int)) ?_)))))))
    refine TL.mv ?_
    refine zE ?_
    exact TX.round (⟨(i + 1, bst, true), by dsimp only; omega, by rw [lookR_snoc hx17 hst, if_neg (by simp [fitsE, q16, q22, q27])]⟩) (by show es.length - (i + 1) < es.length - i; omega) ⟨rfl, rfl, rfl, rfl, rfl, rfl, rfl, rfl, trivial⟩ (fun w1 hw => hw.pick [1, 2, 3] (by decide) rfl)
   refine TL.rn 10 rfl ?_
   refine TL.offU rfl rfl rfl rfl rfl ?_
   refine TL.offU rfl rfl rfl rfl rfl ?_
   refine TL.offU rfl rfl rfl rfl rfl ?_
   refine TL.offU rfl rfl rfl rfl rfl ?_
   refine TL.offU rfl rfl rfl rfl rfl ?_
   refine TL.offU rfl rfl rfl rfl rfl ?_
   refine TL.offU rfl rfl rfl rfl rfl ?_
   refine TL.rn 8 rfl (zET (zd (zk (zN (zT (zG (TL.v (gD ((i + 1 : Nat) : Int)) ?_)))))))
   refine TL.mv ?_
   refine zE ?_
   exact TX.round (⟨(i + 1, bst, true), by dsimp only; omega, by rw [lookR_snoc hx17 hst, if_neg (by simp [fitsE, q16, q22])]⟩) (by show es.length - (i + 1) < es.length - i; omega) ⟨rfl, rfl, rfl, rfl, rfl, rfl, rfl, rfl, trivial⟩ (fun w1 hw => hw.pick [1, 2, 3] (by decide) rfl)
  | false =>
   refine zG (TL.v (gF brefld102_2) ?_)
   refine TL.v (gL 0 pcmag3) ?_
   refine TL.mv ?_
   refine TL.sp bin_leq (fun q22 => ?_) (fun q22 => ?_)
   ·refine TL.rn 2 rfl (TL.ov (gF brefld102_3) ?_)
    refine TL.ov (gL 0 pcmag3) ?_
    refine TL.gu ?_
    refine TL.sp bin_lss (fun q27 => ?_) (fun q27 => ?_)
    ·refine TL.rn 15 rfl (TL.ov (gF brefld102_0) ?_)
     refine TL.ov (gV 0 (.agg #[.int .u32 x17.addr, .int .i64 x17.len]) badag100 badsz100) ?_
     refine TL.rn 1 rfl (TL.gu ?_)
     refine TL.callsplit rfl rfl rfl rfl rfl Tryz.func216 (by decide) rfl (fun w1 hw => hasP_any x17.addr x17.len a w1) (fun h46 => ?_) (fun h46 => ?_)
     ·refine TL.pk ?_
      refine zET (zc (zG (TL.v (gV 0 (.agg (x17.cells).toArray) breag102 bresz102) ?_)))
      refine TL.pstore (k := 1) (vs := x17.cells) rfl rfl rfl rfl rfl rfl rfl bresz102 (en_cel.one _) (by show 5 ≤ 5; decide) (L' := [.blk g11 102 x17.cells, .blk g8 102 x17.cells, .blk g6 102 En.zero.cells, .blk g3 26 [.slice A0 es.length c0]]) rfl ?_
      refine TL.as_ ?_
      refine zE (zN (zT (zG (TL.v (gD ((i + 1 : Nat) : Int)) ?_))))
      refine TL.mv ?_
      refine zE ?_
      exact TX.round (⟨(i + 1, x17, true), by dsimp only; omega, by rw [lookR_snoc hx17 hst, if_pos (by simp [fitsE, q16, q22, q27, h46])]⟩) (by show es.length - (i + 1) < es.length - i; omega) ⟨rfl, rfl, rfl, rfl, rfl, rfl, rfl, rfl, trivial⟩ (fun w1 hw => hw.pick [1, 2, 3] (by decide) rfl)
     refine TL.pk ?_
     refine zET (zd (zk (zN (zT (zG (TL.v (gD ((i + 1 : Nat) : Int)) ?_))))))
     refine TL.mv ?_
     refine zE ?_
     exact TX.round (⟨(i + 1, bst, false), by dsimp only; omega, by rw [lookR_snoc hx17 hst, if_neg (by simp [fitsE, q16, q22, q27, h46])]⟩) (by show es.length - (i + 1) < es.length - i; omega) ⟨rfl, rfl, rfl, rfl, rfl, rfl, rfl, rfl, trivial⟩ (fun w1 hw => hw.pick [1, 2, 3] (by decide) rfl)
    refine TL.rn 5 rfl ?_
    refine TL.offU rfl rfl rfl rfl rfl ?_
    refine TL.offU rfl rfl rfl rfl rfl ?_
    refine TL.offU rfl rfl rfl rfl rfl ?_
    refine TL.offU rfl rfl rfl rfl rfl ?_
    refine TL.offU rfl rfl rfl rfl rfl ?_
    refine TL.offU rfl rfl rfl rfl rfl ?_
    refine TL.offU rfl rfl rfl rfl rfl ?_
    refine TL.rn 8 rfl (zET (zd (zk (zN (zT (zG (TL.v (gD ((i + 1 : Nat) : Int)) ?_)))))))
    refine TL.mv ?_
    refine zE ?_
    exact TX.round (⟨(i + 1, bst, false), by dsimp only; omega, by rw [lookR_snoc hx17 hst, if_neg (by simp [fitsE, q16, q22, q27])]⟩) (by show es.length - (i + 1) < es.length - i; omega) ⟨rfl, rfl, rfl, rfl, rfl, rfl, rfl, rfl, trivial⟩ (fun w1 hw => hw.pick [1, 2, 3] (by decide) rfl)
   refine TL.rn 10 rfl ?_
   refine TL.offU rfl rfl rfl rfl rfl ?_
   refine TL.offU rfl rfl rfl rfl rfl ?_
   refine TL.offU rfl rfl rfl rfl rfl ?_
   refine TL.offU rfl rfl rfl rfl rfl ?_
   refine TL.offU rfl rfl rfl rfl rfl ?_
   refine TL.offU rfl rfl rfl rfl rfl ?_
   refine TL.offU rfl rfl rfl rfl rfl ?_
   refine TL.rn 8 rfl (zET (zd (zk (zN (zT (zG (TL.v (gD ((i + 1 : Nat) : Int)) ?_)))))))
   refine TL.mv ?_
   refine zE ?_
   exact TX.round (⟨(i + 1, bst, false), by dsimp only; omega, by rw [lookR_snoc hx17 hst, if_neg (by simp [fitsE, q16, q22])]⟩) (by show es.length - (i + 1) < es.length - i; omega) ⟨rfl, rfl, rfl, rfl, rfl, rfl, rfl, rfl, trivial⟩ (fun w1 hw => hw.pick [1, 2, 3] (by decide) rfl)
 refine zET (zS (zd (zx (zX (zX (zM (zT (zSG (TL.v (gV 0 (.agg (bst.cells).toArray) breag102 bresz102) ?_)))))))))
 refine TL.mv ?_
 refine TL.pstore (k := 1) (vs := bst.cells) rfl rfl rfl rfl rfl rfl rfl bresz102 (en_cel.one _) (by show 5 ≤ 5; decide) (L' := [.blk g8 102 bst.cells, .blk g6 102 bst.cells, .blk g3 26 [.slice A0 es.length c0]]) rfl ?_
 refine TL.as_ ?_
 refine zET (zr ?_)
 have hE : lookR es a t = (bst, fnd) := by rw [List.take_of_length_le (by omega)] at hst; exact hst
 exact ret_cell2 (k := 1) (v := .bool fnd) Tryz.results189 rfl rfl rfl Tryz.underlying102 rfl rfl (fun w1 hw => ⟨by rw [hE], hw.bel⟩)
theorem lookV_any (A0 : Option Addr) (c0 : Nat) (es : List En) (a t : Int) (w : World) (hr : Reads w w.heap.size 5 A0 es.length (flat En.cells es)) :
  Calls Tryz.prog 161 #[.agg #[.slice A0 es.length c0], .int .u32 a, .int .i64 t] w fun e w' => e = .returned (.tuple #[.agg (lookV es a t).1.cells.toArray, .bool (lookV es a t).2]) ∧ Below w.heap.size w w' := by
 refine begin_ (vs := [.agg #[.slice A0 es.length c0], .int .u32 a, .int .i64 t]) Tryz.func161 rfl rfl rfl ?_ (Pm.start w)
 refine zSG ?_
 refine TL.pnew rfl rfl rfl (exec_box (cs := [.slice A0 es.length c0]) rfl rfl rfl) (fun g3 => ?_)
 refine TL.pnew rfl rfl rfl (exec_alloc (cs := [.int .u32 0, .int .i64 0, .int .i64 0, .int .i64 0, .int .i64 0]) rfl brezv102 rfl) (fun g6 => ?_)
 refine TL.as_ ?_
 refine zET (zS (zSG (TL.v (gV 1 (.agg #[.slice A0 es.length c0]) breag26 bresz26) ?_)))
 refine TL.callsplit rfl rfl rfl rfl rfl Tryz.func84 (by decide) rfl (fun w1 hw => validR_any A0 c0 es w1 (hr.up hw.bel)) (fun h9 => ?_) (fun h9 => ?_)
 ·refine TL.val rfl rfl rfl (gives_boolnot rfl rfl) ?_
  refine zET (zd (zk (zT (zSG (TL.v (gV 1 (.agg #[.slice A0 es.length c0]) breag26 bresz26) ?_)))))
  refine TL.rn 2 rfl ?_
  refine TL.pcall1 (r := .tuple #[.agg ((lookR es a t).1.cells).toArray, .bool ((lookR es a t).2)]) rfl rfl rfl rfl rfl Tryz.func189 (by decide) rfl (fun w1 hw => lookR_any A0 c0 es a t w1 (hr.up hw.bel) (Nat.le_trans (validR_len h9) (by decide))) ?_
  refine TL.rn 2 rfl ?_
  refine TL.pstore (k := 0) (vs := (lookR es a t).1.cells) rfl rfl rfl rfl rfl rfl rfl bresz102 (en_cel.one _) (by show 5 ≤ 5; decide) (L' := [.blk g6 102 (lookR es a t).1.cells, .blk g3 26 [.slice A0 es.length c0]]) rfl ?_
  refine TL.as_ ?_
  refine zET (zr ?_)
  have hE : lookV es a t = lookR es a t := if_pos h9
  exact ret_cell2 (k := 0) (v := .bool ((lookR es a t).2)) Tryz.results161 rfl rfl rfl Tryz.underlying102 rfl rfl (fun w1 hw => ⟨by rw [hE], hw.bel⟩)
 refine TL.val rfl rfl rfl (gives_boolnot rfl rfl) ?_
 refine zET (zc (zSG ?_))
 refine TL.val rfl rfl rfl (gives_build (v := .agg #[.int .u32 0, .int .i64 0, .int .i64 0, .int .i64 0, .int .i64 0]) rfl rfl (fun w => brebld102_791  w)) ?_
 refine TL.pstore (k := 0) (vs := [.int .u32 0, .int .i64 0, .int .i64 0, .int .i64 0, .int .i64 0]) rfl rfl rfl rfl rfl rfl rfl bresz102 breone_u32i64i64i64i64 (by show 5 ≤ 5; decide) (L' := [.blk g6 102 [.int .u32 0, .int .i64 0, .int .i64 0, .int .i64 0, .int .i64 0], .blk g3 26 [.slice A0 es.length c0]]) rfl ?_
 refine TL.as_ ?_
 refine zET (zr (zR ?_))
 have hE : lookV es a t = (En.zero, false) := if_neg (by rw [h9]; decide)
 exact ret_cell2 (k := 0) (v := .bool false) Tryz.results161 rfl rfl rfl Tryz.underlying102 rfl rfl (fun w1 hw => ⟨by rw [hE]; rfl, hw.bel⟩)
theorem prov_any (A0 : Option Addr) (c0 : Nat) (es : List En) (a t : Int) (w : World) (hr : Reads w w.heap.size 5 A0 es.length (flat En.cells es)) :
  Calls Tryz.prog 127 #[.agg #[.slice A0 es.length c0], .int .u32 a, .int .i64 t] w fun e w' => e = .returned (.int .i64 (provR es a t)) ∧ Below w.heap.size w w' := by
 refine begin_ (vs := [.agg #[.slice A0 es.length c0], .int .u32 a, .int .i64 t]) Tryz.func127 rfl rfl rfl ?_ (Pm.start w)
 refine zSG ?_
 refine TL.pnew rfl rfl rfl (exec_box (cs := [.slice A0 es.length c0]) rfl rfl rfl) (fun g3 => ?_)
 refine TL.as_ ?_
 refine zET (zSG (TL.v (gV 0 (.agg #[.slice A0 es.length c0]) breag26 bresz26) ?_))
 refine TL.rn 2 rfl ?_
 refine TL.pcall1 (r := .tuple #[.agg ((lookV es a t).1.cells).toArray, .bool ((lookV es a t).2)]) rfl rfl rfl rfl rfl Tryz.func161 (by decide) rfl (fun w1 hw => lookV_any A0 c0 es a t w1 (hr.up hw.bel)) ?_
 refine TL.rn 3 rfl ?_
 refine TL.pnew rfl rfl rfl (exec_alloc (cs := [.int .u32 0, .int .i64 0, .int .i64 0, .int .i64 0, .int .i64 0]) rfl brezv102 rfl) (fun g7 => ?_)
 refine TL.pstore (k := 0) (vs := (lookV es a t).1.cells) rfl rfl rfl rfl rfl rfl rfl bresz102 (en_cel.one _) (by show 5 ≤ 5; decide) (L' := [.blk g7 102 (lookV es a t).1.cells, .blk g3 26 [.slice A0 es.length c0]]) rfl ?_
 refine TL.as_ ?_
 refine zET (zSG (TL.v (gF brefld102_1) ?_))
 refine TL.v (gL 0 pcmag3) ?_
 refine TL.as_ ?_
 refine zET (zr ?_)
 exact ret_tmp Tryz.results127 rfl (fun w1 hw => ⟨rfl, hw.bel⟩)
set_option maxRecDepth 20000
def dtA (f : Rs → Int) (prov t : Int) (a : Rs) : Prop := a.back < t ∧ f a ≠ 0 ∧ f a ≠ prov
def dtB (f : Rs → Int) (prov t : Int) (a b : Rs) : Prop := t ≤ b.at_ ∧ f b = prov ∧ b.src ≠ a.src
def DtF (f : Rs → Int) (y : List Rs) (prov t : Int) : Prop := ∃ a ∈ y, dtA f prov t a ∧ ∃ b ∈ y, dtB f prov t a b
theorem not_snoc {α : Type} {y : List α} {P : α → Prop} {i : Nat} {x : α} (h : ∀ z ∈ y.take i, ¬ P z) (hx : y[i]? = some x) (hn : ¬ P x) : ∀ z ∈ y.take (i + 1), ¬ P z := fun z hz => by
 rw [List.take_add_one, hx, List.mem_append] at hz
 rcases hz with h1 | h1
 ·exact h z h1
 rw [show z = x by simpa using h1]; exact hn
theorem map_at {α β : Type} {f : α → β} {l : List α} {m : List β} {i : Nat} {x : α} {v : β} (hm : m = l.map f) (hx : l[i]? = some x) (hv : m[i]? = some v) : v = f x := by
 subst hm
 rw [List.getElem?_map, hx] at hv
 exact (Option.some.inj hv).symm
theorem mapt_snoc {α β : Type} {f : α → β} {l : List α} {m : List β} {i : Nat} {x : α} (hx : l[i]? = some x) (h : (l.take i).map f = m) : (l.take (i + 1)).map f = m ++ [f x] := by
 rw [List.take_add_one, hx, List.map_append, h]; rfl
theorem adtbs106_1_5377 (a0_0 : Int) (w : World) : (Instr.buildSlice 106 1 #[(0, .int .i64 a0_0)]).run Tryz.prog w = .ok (.slice (some ⟨w.heap.size, 0, none⟩) 1 1) (w.alloc (.cells [.int .i64 a0_0].toArray 3)) := by kernel_rfl
theorem adtel106 : Elem Tryz.prog 106 3 1 8 := Elem.mk' Tryz.underlying106 (z := .int .i64 0) (by kernel_rfl) rfl (by omega) (by omega)
theorem providers_any (A0 : Option Addr) (c0 : Nat) (l : List Rs) (A1 : Option Addr) (c1 : Nat) (es : List En) (w : World) (hr : Reads w w.heap.size 17 A0 l.length (flat Rs.cells l)) (hl1 : l.length ≤ 100000) (hr1 : Reads w w.heap.size 5 A1 es.length (flat En.cells es)) :
  Calls Tryz.prog 82 #[.slice A0 l.length c0, .agg #[.slice A1 es.length c1]] w fun e w' => ∃ x : {y : (Option Addr × Nat) × List Int // y.2 = l.map (fun r : Rs => provR es r.src r.back) ∧ y.2.length ≤ y.1.2 ∧ y.1.2 ≤ maxLen}, e = .returned (.slice x.1.1.1 x.1.2.length x.1.1.2) ∧ Pm w [.row (.slice x.1.1.1 x.1.2.length x.1.1.2) 3 1 x.1.2.length (flat (ic .i64) x.1.2)] w' := by
 refine begin_ (vs := [.slice A0 l.length c0, .agg #[.slice A1 es.length c1]]) Tryz.func82 rfl rfl rfl ?_ (Pm.start w)
 refine zSG ?_
 refine TL.pnew rfl rfl rfl (exec_box (cs := [.slice A1 es.length c1]) rfl rfl rfl) (fun g3 => ?_)
 refine TL.as_ ?_
 refine zET (zSG (TL.as_ ?_))
 refine zET (zS (zSG (TL.mv ?_)))
 refine TL.v (gN Tryz.underlying23) ?_
 refine TL.mv ?_
 refine zET (zB (TC.nilrow 3 1 ?_))
 refine TC.loop_ (α := {y : Nat × (Option Addr × Nat) × List Int // y.1 ≤ l.length ∧ ((l.take y.1).map (fun r : Rs => provR es r.src r.back) = y.2.2) ∧ y.2.2.length ≤ y.1 ∧ y.2.2.length ≤ y.2.1.2 ∧ y.2.1.2 ≤ maxLen}) (fun y => [(3, .pointer (some ⟨g3, 0, none⟩)), (8, .slice A0 l.length c0), (9, .int .i64 (l.length : Nat)), (10, .int .i64 ((y.1.1 : Nat) : Int)), (5, .slice y.1.2.1.1 y.1.2.2.length y.1.2.1.2)]) (fun y => Pm w [.row (.slice y.1.2.1.1 y.1.2.2.length y.1.2.1.2) 3 1 y.1.2.2.length (flat (ic .i64) y.1.2.2), .blk g3 26 [.slice A1 es.length c1]]) (fun y => l.length - y.1.1) (⟨(0, (none, 0), []), Nat.zero_le _, rfl, Nat.le_refl _, Nat.le_refl _, Nat.zero_le _⟩) ⟨rfl, rfl, rfl, rfl, rfl, trivial⟩ (fun w1 hw => hw) ?_
 rintro ⟨⟨i, ⟨Ao, co⟩, out⟩, hi, hout, houtl, houtc, houtm⟩
 dsimp only at hi hout houtl houtc houtm ⊢
 refine zSG ?_
 refine TL.sp bin_lss (fun q11 => ?_) (fun q11 => ?_)
 ·refine zET (zS (zc (zk (zT (zS (zB (zSG ?_)))))))
  have hi12 : i < l.length := by omega
  obtain ⟨x12, hx12⟩ := ex_at hi12
  obtain ⟨b12, o12, hA12, hbb12, hc12⟩ := hr.ad (by omega) (by decide)
  refine TL.val rfl rfl rfl (gA (i := i) Tryz.underlying23 prssz65 rfl rfl rfl rfl hA12 (by omega)) ?_
  refine TL.v (gR rs_cel prsag65 prssz65 hbb12 hx12 hc12) ?_
  refine TL.pnew rfl rfl rfl (exec_alloc (cs := [.int .i64 0, .int .i64 0, .int .i64 0, .int .i64 0, .int .u32 0, .int .i64 0, .int .i64 0, .int .i64 0, .bool false, .bool false, .int .i64 0, .int .u32 0, .int .i64 0, .int .i64 0, .int .i64 0, .int .i64 0, .int .i64 0]) rfl arpzv65 rfl) (fun g7 => ?_)
  refine TL.pstore (k := 0) (vs := x12.cells) rfl rfl rfl rfl rfl rfl rfl prssz65 (rs_cel.one _) (by show 17 ≤ 17; decide) (L' := [.blk g7 65 x12.cells, .row (.slice Ao out.length co) 3 1 out.length (flat (ic .i64) out), .blk g3 26 [.slice A1 es.length c1]]) rfl ?_
  refine zET (zG (TL.mv ?_))
  refine TL.v (gV 2 (.agg #[.slice A1 es.length c1]) breag26 bresz26) ?_
  refine TL.v (gF prsfld65_11) ?_
  refine TL.v (gF prsfld63_0) ?_
  refine TL.v (gL 0 pcmag30) ?_
  refine TL.v (gF prsfld65_10) ?_
  refine TL.v (gL 0 pcmag3) ?_
  refine TL.pcall1 (r := .int .i64 (provR es x12.src x12.back)) rfl rfl rfl rfl rfl Tryz.func127 (by decide) rfl (fun w1 hw => prov_any A1 c1 es x12.src x12.back w1 (hr1.up hw.bel)) ?_
  refine TL.prowS (e := 3) (size := 1) (cs := flat (ic .i64) [provR es x12.src x12.back]) rfl rfl rfl rfl rfl (fun w => adtbs106_1_5377 _ w) (by decide) rfl (fun g22 => ?_)
  refine TL.appendT (k := 2) rfl rfl rfl rfl Tryz.underlying106 adtel106 rfl rfl rfl (fun w1 hw => pm_reads hw (k := 0) rfl) (flat_one (ic_cel .i64) _) (by show _ * 8 ≤ _; omega) ((out ++ [provR es x12.src x12.back]).length) (by rw [List.length_append]; rfl) (flat (ic .i64) (out ++ [provR es x12.src x12.back])) ((flat_app _ _).symm) (fun A23 c23 hA231 hA232 => ?_)
  refine TL.as_ ?_
  refine zE (zN (zT (zG (TL.v (gD ((i + 1 : Nat) : Int)) ?_))))
  refine TL.mv ?_
  refine zE ?_
  exact TX.round (⟨(i + 1, (A23, c23), out ++ [provR es x12.src x12.back]), by dsimp only; omega, mapt_snoc (f := (fun r : Rs => provR es r.src r.back)) hx12 hout, by dsimp only; rw [List.length_append]; show out.length + 1 ≤ _; omega, hA231, hA232⟩) (by show l.length - (i + 1) < l.length - i; omega) ⟨rfl, rfl, rfl, rfl, rfl, trivial⟩ (fun w1 hw => hw.pick [2, 3] (by decide) rfl)
 refine zET (zS (zd (zx (zX (zX (zM (zT (zSG (TL.rn 2 rfl (zET (zr ?_)))))))))))
 exact ret_tmp Tryz.results82 rfl (fun w1 hw => ⟨⟨((Ao, co), out), by rw [List.take_of_length_le (by omega)] at hout; exact hout.symm, by dsimp only; omega, houtm⟩, rfl, hw.pick [0] (by decide) rfl⟩)
theorem detour_l (A0 : Option Addr) (c0 : Nat) (l : List Rs) (A1 : Option Addr) (c1 : Nat) (ps : List Int) (f : Rs → Int) (prov t : Int) (w : World) (hr : Reads w w.heap.size 17 A0 l.length (flat Rs.cells l)) (hl1 : l.length ≤ 100000) (hr1 : Reads w w.heap.size 1 A1 ps.length (flat (ic .i64) ps)) (hps : ps = l.map f) :
  Calls Tryz.prog 81 #[.slice A0 l.length c0, .slice A1 ps.length c1, .int .i64 prov, .int .i64 t] w fun e w' => ∃ x : {b : Bool // b = true ↔ DtF f l prov t}, e = .returned (.bool x.1) ∧ Below w.heap.size w w' := by
 have hpl : ps.length = l.length := by rw [hps, List.length_map]
 refine begin_ (vs := [.slice A0 l.length c0, .slice A1 ps.length c1, .int .i64 prov, .int .i64 t]) Tryz.func81 rfl rfl rfl ?_ (Pm.start w)
 refine zSG (TL.as_ ?_)
 refine zET (zS (zSG (TL.mv ?_)))
 refine TL.v (gN Tryz.underlying23) ?_
 refine TL.mv ?_
 refine zET (zB ?_)
 refine TC.loop_ (α := {i : Nat // i ≤ l.length ∧ ∀ z ∈ l.take i, ¬ (dtA f prov t z ∧ ∃ b ∈ l, dtB f prov t z b)}) (fun y => [(0, .slice A0 l.length c0), (1, .slice A1 ps.length c1), (2, .int .i64 prov), (3, .int .i64 t), (13, .slice A0 l.length c0), (14, .int .i64 (l.length : Nat)), (15, .int .i64 ((y.1 : Nat) : Int))]) (fun y => Pm w []) (fun y => l.length - y.1) (⟨0, Nat.zero_le _, fun z hz => by rw [List.take_zero] at hz; cases hz⟩) ⟨rfl, rfl, rfl, rfl, rfl, rfl, rfl, trivial⟩ (fun w1 hw => hw) ?_
 rintro ⟨i, hi, hma⟩
 try dsimp only at hi hma ⊢
 refine zSG ?_
 refine TL.sp bin_lss (fun q16 => ?_) (fun q16 => ?_)
 ·refine zET (zS (zc (zk (zT (zS (zB (zSG (TL.mv ?_))))))))
  have hi18 : i < l.length := by omega
  obtain ⟨x18, hx18⟩ := ex_at hi18
  obtain ⟨b18, o18, hA18, hbb18, hc18⟩ := hr.ad (by omega) (by decide)
  refine TL.val rfl rfl rfl (gA (i := i) Tryz.underlying23 prssz65 rfl rfl rfl rfl hA18 (by omega)) ?_
  refine TL.v (gR rs_cel prsag65 prssz65 hbb18 hx18 hc18) ?_
  refine TL.pnew rfl rfl rfl (exec_alloc (cs := [.int .i64 0, .int .i64 0, .int .i64 0, .int .i64 0, .int .u32 0, .int .i64 0, .int .i64 0, .int .i64 0, .bool false, .bool false, .int .i64 0, .int .u32 0, .int .i64 0, .int .i64 0, .int .i64 0, .int .i64 0, .int .i64 0]) rfl arpzv65 rfl) (fun g10 => ?_)
  refine TL.as_ ?_
  refine TL.pstore (k := 0) (vs := x18.cells) rfl rfl rfl rfl rfl rfl rfl prssz65 (rs_cel.one _) (by show 17 ≤ 17; decide) (L' := [.blk g10 65 x18.cells]) rfl ?_
  refine zET (zS (zSG (TL.v (gF prsfld65_10) ?_)))
  refine TL.v (gL 0 pcmag3) ?_
  refine TL.mv ?_
  refine TL.sp bin_geq (fun q23 => ?_) (fun q23 => ?_)
  ·refine TL.rn 15 rfl (zET (zc (zx (zX (zM (zT (zG (TL.v (gD ((i + 1 : Nat) : Int)) ?_))))))))
   refine TL.mv ?_
   refine zE ?_
   exact TX.round (⟨i + 1, by omega, not_snoc hma hx18 (fun h => by have := h.1.1; omega)⟩) (by show l.length - (i + 1) < l.length - i; omega) ⟨rfl, rfl, rfl, rfl, rfl, rfl, rfl, trivial⟩ (fun w1 hw => hw.pick [] (by decide) rfl)
  refine TL.rn 3 rfl (TL.gu ?_)
  have hi27 : i < ps.length := by omega
  obtain ⟨x27, hx27⟩ := ex_at hi27
  obtain ⟨b27, o27, hA27, hbb27, hc27⟩ := hr1.ad (by omega) (by decide)
  refine TL.val rfl rfl rfl (gA (i := i) Tryz.underlying106 pcmsz3 rfl rfl rfl rfl hA27 (by omega)) ?_
  refine TL.gu ?_
  refine TL.val rfl rfl rfl (gives_load (v := .int .i64 x27) rfl rfl pcmag3 (fun w1 hw => (hw.bel.cell hbb27).trans <| flat_cell (ic_cel .i64) hx27 hc27 0 _ rfl)) ?_
  refine TL.gu ?_
  refine TL.sp bin_eql (fun q29 => ?_) (fun q29 => ?_)
  ·refine TL.rn 9 rfl (zET (zc (zx (zX (zM (zT (zG (TL.v (gD ((i + 1 : Nat) : Int)) ?_))))))))
   refine TL.mv ?_
   refine zE ?_
   exact TX.round (⟨i + 1, by omega, not_snoc hma hx18 (fun h => h.1.2.1 (by rw [← map_at hps hx18 hx27]; exact q29))⟩) (by show l.length - (i + 1) < l.length - i; omega) ⟨rfl, rfl, rfl, rfl, rfl, rfl, rfl, trivial⟩ (fun w1 hw => hw.pick [] (by decide) rfl)
  refine TL.rn 4 rfl (TL.gu ?_)
  refine TL.val rfl rfl rfl (gA (i := i) Tryz.underlying106 pcmsz3 rfl rfl rfl rfl hA27 (by omega)) ?_
  refine TL.gu ?_
  refine TL.val rfl rfl rfl (gives_load (v := .int .i64 x27) rfl rfl pcmag3 (fun w1 hw => (hw.bel.cell hbb27).trans <| flat_cell (ic_cel .i64) hx27 hc27 0 _ rfl)) ?_
  refine TL.rn 1 rfl (TL.gu ?_)
  refine TL.sp bin_eql (fun q37 => ?_) (fun q37 => ?_)
  ·refine TL.pk ?_
   refine zET (zc (zx (zX (zM (zT (zG (TL.v (gD ((i + 1 : Nat) : Int)) ?_)))))))
   refine TL.mv ?_
   refine zE ?_
   exact TX.round (⟨i + 1, by omega, not_snoc hma hx18 (fun h => h.1.2.2 (by rw [← map_at hps hx18 hx27]; exact q37))⟩) (by show l.length - (i + 1) < l.length - i; omega) ⟨rfl, rfl, rfl, rfl, rfl, rfl, rfl, trivial⟩ (fun w1 hw => hw.pick [] (by decide) rfl)
  refine TL.pk ?_
  refine zET (zd (zk (zT (zSG (TL.mv ?_)))))
  refine TL.v (gN Tryz.underlying23) ?_
  refine TL.mv ?_
  refine zET (zB ?_)
  refine TC.loop_ (α := {k : Nat // k ≤ l.length ∧ ∀ z ∈ l.take k, ¬ (dtB f prov t x18 z)}) (fun y => [(0, .slice A0 l.length c0), (1, .slice A1 ps.length c1), (2, .int .i64 prov), (3, .int .i64 t), (10, .pointer (some ⟨g10, 0, none⟩)), (13, .slice A0 l.length c0), (14, .int .i64 (l.length : Nat)), (15, .int .i64 ((i : Nat) : Int)), (39, .slice A0 l.length c0), (40, .int .i64 (l.length : Nat)), (41, .int .i64 ((y.1 : Nat) : Int))]) (fun y => Pm w [.blk g10 65 x18.cells]) (fun y => l.length - y.1) (⟨0, Nat.zero_le _, fun z hz => by rw [List.take_zero] at hz; cases hz⟩) ⟨rfl, rfl, rfl, rfl, rfl, rfl, rfl, rfl, rfl, rfl, rfl, trivial⟩ (fun w1 hw => hw) ?_
  rintro ⟨k, hk, hmb⟩
  try dsimp only at hk hmb ⊢
  refine zSG ?_
  refine TL.sp bin_lss (fun q42 => ?_) (fun q42 => ?_)
  ·refine zET (zS (zc (zk (zT (zS (zB (zSG (TL.mv ?_))))))))
   have hi44 : k < l.length := by omega
   obtain ⟨x44, hx44⟩ := ex_at hi44
   obtain ⟨b44, o44, hA44, hbb44, hc44⟩ := hr.ad (by omega) (by decide)
   refine TL.val rfl rfl rfl (gA (i := k) Tryz.underlying23 prssz65 rfl rfl rfl rfl hA44 (by omega)) ?_
   refine TL.v (gR rs_cel prsag65 prssz65 hbb44 hx44 hc44) ?_
   refine TL.pnew rfl rfl rfl (exec_alloc (cs := [.int .i64 0, .int .i64 0, .int .i64 0, .int .i64 0, .int .u32 0, .int .i64 0, .int .i64 0, .int .i64 0, .bool false, .bool false, .int .i64 0, .int .u32 0, .int .i64 0, .int .i64 0, .int .i64 0, .int .i64 0, .int .i64 0]) rfl arpzv65 rfl) (fun g12 => ?_)
   refine TL.as_ ?_
   refine TL.pstore (k := 0) (vs := x44.cells) rfl rfl rfl rfl rfl rfl rfl prssz65 (rs_cel.one _) (by show 17 ≤ 17; decide) (L' := [.blk g12 65 x44.cells, .blk g10 65 x18.cells]) rfl ?_
   refine zET (zSG (TL.v (gF prsfld65_3) ?_))
   refine TL.v (gL 0 pcmag3) ?_
   refine TL.mv ?_
   refine TL.sp bin_geq (fun q49 => ?_) (fun q49 => ?_)
   ·refine TL.rn 3 rfl (TL.gu ?_)
    have hi53 : k < ps.length := by omega
    obtain ⟨x53, hx53⟩ := ex_at hi53
    obtain ⟨b53, o53, hA53, hbb53, hc53⟩ := hr1.ad (by omega) (by decide)
    refine TL.val rfl rfl rfl (gA (i := k) Tryz.underlying106 pcmsz3 rfl rfl rfl rfl hA53 (by omega)) ?_
    refine TL.gu ?_
    refine TL.val rfl rfl rfl (gives_load (v := .int .i64 x53) rfl rfl pcmag3 (fun w1 hw => (hw.bel.cell hbb53).trans <| flat_cell (ic_cel .i64) hx53 hc53 0 _ rfl)) ?_
    refine TL.rn 1 rfl (TL.gu ?_)
    refine TL.sp bin_eql (fun q56 => ?_) (fun q56 => ?_)
    ·refine TL.rn 2 rfl (TL.ov (gF prsfld65_11) ?_)
     refine TL.ov (gF prsfld63_0) ?_
     refine TL.ov (gL 0 pcmag30) ?_
     refine TL.ov (gF prsfld65_11) ?_
     refine TL.ov (gF prsfld63_0) ?_
     refine TL.ov (gL 1 pcmag30) ?_
     refine TL.gu ?_
     refine TL.sp bin_neq (fun q65 => ?_) (fun q65 => ?_)
     ·refine TL.pk ?_
      refine zET (zc (zSG (TL.as_ ?_)))
      refine zET (zr (zRR (zR (TX.in_ret (zRR (zR (zRR ?_)))))))
      have hit : DtF f l prov t := ⟨x18, List.mem_of_getElem? hx18, ⟨by omega, by rw [← map_at hps hx18 hx27]; exact q29, by rw [← map_at hps hx18 hx27]; exact q37⟩, x44, List.mem_of_getElem? hx44, by omega, by rw [← map_at hps hx44 hx53]; exact q56, q65⟩
      exact ret_tmp Tryz.results81 rfl (fun w1 hw => ⟨⟨true, fun _ => hit, fun _ => rfl⟩, rfl, hw.bel⟩)
     refine TL.pk ?_
     refine zET (zd (zk (zN (zT (zG (TL.v (gD ((k + 1 : Nat) : Int)) ?_))))))
     refine TL.mv ?_
     refine zE ?_
     exact TX.round (⟨k + 1, by omega, not_snoc hmb hx44 (fun h => q65 h.2.2)⟩) (by show l.length - (k + 1) < l.length - k; omega) ⟨rfl, rfl, rfl, rfl, rfl, rfl, rfl, rfl, rfl, rfl, rfl, trivial⟩ (fun w1 hw => hw.pick [1] (by decide) rfl)
    refine TL.rn 10 rfl (zET (zd (zk (zN (zT (zG (TL.v (gD ((k + 1 : Nat) : Int)) ?_)))))))
    refine TL.mv ?_
    refine zE ?_
    exact TX.round (⟨k + 1, by omega, not_snoc hmb hx44 (fun h => q56 (by rw [map_at hps hx44 hx53]; exact h.2.1))⟩) (by show l.length - (k + 1) < l.length - k; omega) ⟨rfl, rfl, rfl, rfl, rfl, rfl, rfl, rfl, rfl, rfl, rfl, trivial⟩ (fun w1 hw => hw.pick [1] (by decide) rfl)
   refine TL.rn 17 rfl (zET (zd (zk (zN (zT (zG (TL.v (gD ((k + 1 : Nat) : Int)) ?_)))))))
   refine TL.mv ?_
   refine zE ?_
   exact TX.round (⟨k + 1, by omega, not_snoc hmb hx44 (fun h => by have := h.1; omega)⟩) (by show l.length - (k + 1) < l.length - k; omega) ⟨rfl, rfl, rfl, rfl, rfl, rfl, rfl, rfl, rfl, rfl, rfl, trivial⟩ (fun w1 hw => hw.pick [1] (by decide) rfl)
  refine zET (zS (zd (zx (zX (zX (zM (zN (zT (zG (TL.v (gD ((i + 1 : Nat) : Int)) ?_))))))))))
  refine TL.mv ?_
  refine zE ?_
  exact TX.round (⟨i + 1, by omega, not_snoc hma hx18 (fun h => by obtain ⟨_, b, hb, h2⟩ := h; rw [List.take_of_length_le (by omega)] at hmb; exact hmb b hb h2)⟩) (by show l.length - (i + 1) < l.length - i; omega) ⟨rfl, rfl, rfl, rfl, rfl, rfl, rfl, trivial⟩ (fun w1 hw => hw.pick [] (by decide) rfl)
 refine zET (zS (zd (zx (zX (zX (zM (zT (zSG (TL.as_ ?_)))))))))
 refine zET (zr ?_)
 have hno : ¬ DtF f l prov t := by
  rintro ⟨a, h1, h2⟩
  rw [List.take_of_length_le (by omega)] at hma
  exact hma a h1 h2
 exact ret_tmp Tryz.results81 rfl (fun w1 hw => ⟨⟨false, fun h => (by cases h), fun h => absurd h hno⟩, rfl, hw.bel⟩)
set_option maxRecDepth 20000
def DtP (es : List En) (l : List Rs) (p : Rp) : Prop := p.kind = 2 ∧ ∃ y, IsSt l p.trc p.flow y ∧ DtF (fun r : Rs => provR es r.src r.back) (atL y p.ttl) p.prov p.at_
theorem ad2fld34_1 (g o : Nat) (w : World) : (Instr.fieldAt 34 (.pointer (some ⟨g, o, none⟩)) 1).run Tryz.prog w = .ok (.pointer (some ⟨g, o + 1, none⟩)) w := by kernel_rfl
theorem ad2ag32 (w : World) : (isAgg 32).run Tryz.prog w = .ok true w := rfl
theorem ad2sz32 (w : World) : (sizeOf 32).run Tryz.prog w = .ok 3 w := rfl
theorem ad2fld34_2 (g o : Nat) (w : World) : (Instr.fieldAt 34 (.pointer (some ⟨g, o, none⟩)) 2).run Tryz.prog w = .ok (.pointer (some ⟨g, o + 4, none⟩)) w := by kernel_rfl
theorem ad2ag3 (w : World) : (isAgg 3).run Tryz.prog w = .ok false w := rfl
theorem ad2fld34_3 (g o : Nat) (w : World) : (Instr.fieldAt 34 (.pointer (some ⟨g, o, none⟩)) 3).run Tryz.prog w = .ok (.pointer (some ⟨g, o + 5, none⟩)) w := by kernel_rfl
theorem ad2nm73 : (Tryz.f73.name == "runtime.NumGoroutine") = false := by decide
theorem ad2bd73 : Tryz.f73.body.isNone = false := rfl
theorem ad2nm77 : (Tryz.f77.name == "runtime.NumGoroutine") = false := by decide
theorem ad2bd77 : Tryz.f77.body.isNone = false := rfl
theorem ad2fld34_0 (g o : Nat) (w : World) : (Instr.fieldAt 34 (.pointer (some ⟨g, o, none⟩)) 0).run Tryz.prog w = .ok (.pointer (some ⟨g, o + 0, none⟩)) w := by kernel_rfl
theorem ad2ag26 (w : World) : (isAgg 26).run Tryz.prog w = .ok true w := rfl
theorem ad2sz26 (w : World) : (sizeOf 26).run Tryz.prog w = .ok 1 w := rfl
theorem ad2fld34_5 (g o : Nat) (w : World) : (Instr.fieldAt 34 (.pointer (some ⟨g, o, none⟩)) 5).run Tryz.prog w = .ok (.pointer (some ⟨g, o + 7, none⟩)) w := by kernel_rfl
theorem ad2fld34_4 (g o : Nat) (w : World) : (Instr.fieldAt 34 (.pointer (some ⟨g, o, none⟩)) 4).run Tryz.prog w = .ok (.pointer (some ⟨g, o + 6, none⟩)) w := by kernel_rfl
theorem ad2nm82 : (Tryz.f82.name == "runtime.NumGoroutine") = false := by decide
theorem ad2bd82 : Tryz.f82.body.isNone = false := rfl
theorem ad2nm81 : (Tryz.f81.name == "runtime.NumGoroutine") = false := by decide
theorem ad2bd81 : Tryz.f81.body.isNone = false := rfl
theorem detour_any (A0 : Option Addr) (c0 : Nat) (l : List Rs) (A1 : Option Addr) (c1 : Nat) (es : List En) (p : Rp) (w : World) (hr : Reads w w.heap.size 17 A0 l.length (flat Rs.cells l)) (hl1 : l.length ≤ 100000) (hok : ∀ r ∈ l, r.Ok) (hr1 : Reads w w.heap.size 5 A1 es.length (flat En.cells es)) :
  Calls Tryz.prog 35 #[.slice A0 l.length c0, .agg #[.slice A1 es.length c1], .agg p.cells.toArray] w fun e w' => ∃ x : {b : Bool // b = true ↔ DtP es l p}, e = .returned (.bool x.1) ∧ Below w.heap.size w w' := by
 refine begin_ (vs := [.slice A0 l.length c0, .agg #[.slice A1 es.length c1], .agg p.cells.toArray]) Tryz.func35 rfl rfl rfl ?_ (Pm.start w)
 refine zSG ?_
 refine TL.pnew rfl rfl rfl (exec_box (cs := [.slice A1 es.length c1]) rfl rfl rfl) (fun g4 => ?_)
 refine TL.pnew rfl rfl rfl (exec_box (cs := p.cells) rfl rfl rfl) (fun g5 => ?_)
 refine TL.as_ ?_
 refine zET (zS (TC.held (ls := #[Ff,Ff,Ff,Ff,Ff,Ff,Ff,Ff,Ff,Ff]) (Pm w [.blk g5 34 p.cells, .blk g4 26 [.slice A1 es.length c1]]) (by kernel_rfl) rfl rfl (fun w hw => hw.drawn _) ?_))
 refine TH.tk 0 rfl rfl rfl (gives_move rfl rfl) (fun w1 hw => hw) ?_
 refine TH.tk 1 rfl rfl rfl (gF ad2fld34_1) (fun w1 hw => hw) ?_
 refine TH.tk 2 rfl rfl rfl (gV 0 (.agg #[.int .i64 p.v, .int .u32 p.dst, .int .i64 p.proto]) ad2ag32 ad2sz32) (fun w1 hw => hw) ?_
 refine TH.tk 3 rfl rfl rfl (gF ad2fld34_2) (fun w1 hw => hw) ?_
 refine TH.tk 4 rfl rfl rfl (gL 0 ad2ag3) (fun w1 hw => hw) ?_
 refine TH.tk 6 rfl rfl rfl (gF ad2fld34_3) (fun w1 hw => hw) ?_
 refine TH.tk 7 rfl rfl rfl (gL 0 ad2ag3) (fun w1 hw => hw) ?_
 refine TH.only' 5 rfl (by kernel_rfl) rfl ?_
 refine TL.pcallPm (α := {y : (Option Addr × Nat) × List Rs // IsSt l p.trc p.flow y.2 ∧ y.2.length ≤ y.1.2 ∧ y.1.2 ≤ maxLen}) (fun x => .slice x.1.1.1 x.1.2.length x.1.1.2) (fun x => [.row (.slice x.1.1.1 x.1.2.length x.1.1.2) 65 17 x.1.2.length (flat Rs.cells x.1.2)]) rfl rfl rfl rfl rfl Tryz.func73 ad2nm73 ad2bd73 (fun w1 hw => stream_any A0 c0 l p.trc p.flow w1 (hr.up hw.bel) hl1 hok) ?_
 rintro ⟨⟨⟨R13, rc13⟩, st13⟩, hP13, hR131, hR132⟩
 dsimp only [List.cons_append, List.nil_append]
 dsimp only at hP13 hR131 hR132 ⊢
 refine zE ?_
 refine TX.held (fun w1 hw => hw.pick [1, 2] (by decide) rfl) ?_
 refine TH.only' 8 rfl (by kernel_rfl) rfl ?_
 refine TL.pcallPm (α := {y : (Option Addr × Nat) × List Rs // y.2 = atL st13 p.ttl ∧ y.2.length ≤ y.1.2 ∧ y.1.2 ≤ maxLen}) (fun x => .slice x.1.1.1 x.1.2.length x.1.1.2) (fun x => [.row (.slice x.1.1.1 x.1.2.length x.1.1.2) 65 17 x.1.2.length (flat Rs.cells x.1.2)]) rfl rfl rfl rfl rfl Tryz.func77 ad2nm77 ad2bd77 (fun w1 hw => atl_any R13 rc13 st13 p.ttl w1 (pm_rd hw (k := 0) rfl) (by have := hP13.le; omega)) ?_
 rintro ⟨⟨⟨R16, rc16⟩, at16⟩, hP16, hR161, hR162⟩
 dsimp only [List.cons_append, List.nil_append]
 dsimp only at hP16 hR161 hR162 ⊢
 refine zE ?_
 refine TX.he (fun w1 hw => hw.pick [2, 3] (by decide) rfl) fun hS => ?_
 refine TH.t 9 rfl (gives_assign rfl rfl) hS ?_
 refine TH.done (by kernel_rfl) ?_
 refine zT (zS ?_)
 by_cases hk : p.kind = 2
 ·have hal : at16.length ≤ 100000 := by have := hP13.le; have := List.length_filter_le (fun r : Rs => r.ans && decide (r.ttl = p.ttl)) st13; rw [hP16]; unfold atL; omega
  refine TC.held (ls := #[Ff,Ff,Ff,Ff,Ff,Ff,Ff,Ff,Ff,Ff,Ff,Ff,Ff,Ff,Ff]) (Pm w [.blk g5 34 p.cells, .blk g4 26 [.slice A1 es.length c1]]) (by kernel_rfl) rfl rfl (fun w hw => hw.drawn _) ?_
  refine TH.tk 0 rfl rfl rfl (gF ad2fld34_0) (fun w1 hw => hw.pick [2, 3] (by decide) rfl) ?_
  refine TH.tk 1 rfl rfl rfl (gL 0 ad2ag3) (fun w1 hw => hw.pick [2, 3] (by decide) rfl) ?_
  refine TH.tk 2 rfl rfl rfl (gives_bin rfl rfl rfl (fun w => bin_eql_t (hk) w)) (fun w1 hw => hw.pick [2, 3] (by decide) rfl) ?_
  refine TH.tk 3 rfl rfl rfl (gives_move rfl rfl) (fun w1 hw => hw.pick [2, 3] (by decide) rfl) ?_
  refine TH.takeG 4 rfl (by kernel_rfl) (by kernel_rfl) (by kernel_rfl) rfl rfl rfl rfl rfl rfl (gives_move rfl rfl) (fun w1 hw => hw.pick [2, 3] (by decide) rfl) ?_
  refine TH.takeG 5 rfl (by kernel_rfl) (by kernel_rfl) (by kernel_rfl) rfl rfl rfl rfl rfl rfl (gives_move rfl rfl) (fun w1 hw => hw.pick [2, 3] (by decide) rfl) ?_
  refine TH.takeG 6 rfl (by kernel_rfl) (by kernel_rfl) (by kernel_rfl) rfl rfl rfl rfl rfl rfl (gV 1 (.agg #[.slice A1 es.length c1]) ad2ag26 ad2sz26) (fun w1 hw => hw.pick [2, 3] (by decide) rfl) ?_
  refine TH.takeG 8 rfl (by kernel_rfl) (by kernel_rfl) (by kernel_rfl) rfl rfl rfl rfl rfl rfl (gF ad2fld34_5) (fun w1 hw => hw.pick [2, 3] (by decide) rfl) ?_
  refine TH.takeG 9 rfl (by kernel_rfl) (by kernel_rfl) (by kernel_rfl) rfl rfl rfl rfl rfl rfl (gL 0 ad2ag3) (fun w1 hw => hw.pick [2, 3] (by decide) rfl) ?_
  refine TH.takeG 10 rfl (by kernel_rfl) (by kernel_rfl) (by kernel_rfl) rfl rfl rfl rfl rfl rfl (gF ad2fld34_4) (fun w1 hw => hw.pick [2, 3] (by decide) rfl) ?_
  refine TH.takeG 11 rfl (by kernel_rfl) (by kernel_rfl) (by kernel_rfl) rfl rfl rfl rfl rfl rfl (gL 0 ad2ag3) (fun w1 hw => hw.pick [2, 3] (by decide) rfl) ?_
  refine TH.only' 7 rfl (by kernel_rfl) rfl ?_
  refine TL.gu ?_
  refine TL.pcallPm (α := {y : (Option Addr × Nat) × List Int // y.2 = at16.map (fun r : Rs => provR es r.src r.back) ∧ y.2.length ≤ y.1.2 ∧ y.1.2 ≤ maxLen}) (fun x => .slice x.1.1.1 x.1.2.length x.1.1.2) (fun x => [.row (.slice x.1.1.1 x.1.2.length x.1.1.2) 3 1 x.1.2.length (flat (ic .i64) x.1.2)]) rfl rfl rfl rfl rfl Tryz.func82 ad2nm82 ad2bd82 (fun w1 hw => providers_any R16 rc16 at16 A1 c1 es w1 (pm_rd hw (k := 0) rfl) (by omega) (hr1.up hw.bel)) ?_
  rintro ⟨⟨⟨R24, rc24⟩, pv24⟩, hP24, hR241, hR242⟩
  dsimp only [List.cons_append, List.nil_append]
  dsimp only at hP24 hR241 hR242 ⊢
  refine zE ?_
  refine TX.held (fun w1 hw => hw.pick [3, 4] (by decide) rfl) ?_
  refine TH.only' 12 rfl (by kernel_rfl) rfl ?_
  refine TL.gu ?_
  refine TL.pcallPm (α := {b : Bool // b = true ↔ DtF (fun r : Rs => provR es r.src r.back) at16 p.prov p.at_}) (fun x => .bool x.1) (fun x => []) rfl rfl rfl rfl rfl Tryz.func81 ad2nm81 ad2bd81 (fun w1 hw => (detour_l R16 rc16 at16 R24 rc24 pv24 (fun r : Rs => provR es r.src r.back) p.prov p.at_ w1 (pm_rd hw (k := 1) rfl) (by omega) (pm_rd hw (k := 0) rfl) hP24).mono fun en w2 ⟨x, h1, h2⟩ => ⟨x, h1, (Pm.start w1).below h2⟩) ?_
  rintro ⟨bd, hbd⟩
  dsimp only [List.cons_append, List.nil_append]
  refine zE ?_
  refine TX.he (fun w1 hw => hw.pick [3, 4] (by decide) rfl) fun hS => ?_
  refine TH.t 13 rfl (gives_pick rfl rfl rfl) hS ?_
  refine TH.t 14 rfl (gives_assign rfl rfl) hS ?_
  refine TH.done (by kernel_rfl) ?_
  refine zT (zr ?_)
  exact ret_tmp Tryz.results35 rfl (fun w1 hw => ⟨⟨bd, hbd.trans ⟨fun h => ⟨hk, st13, hP13, by rw [← hP16]; exact h⟩, fun ⟨_, y, h1, h2⟩ => by rw [hP16, hP13.eq h1]; exact h2⟩⟩, rfl, hw.bel⟩)
 have hal : at16.length ≤ 100000 := by have := hP13.le; have := List.length_filter_le (fun r : Rs => r.ans && decide (r.ttl = p.ttl)) st13; rw [hP16]; unfold atL; omega
 refine TC.held (ls := #[Ff,Ff,Ff,Ff,Ff,Ff,Ff,Ff,Ff,Ff,Ff,Ff,Ff,Ff,Ff]) (Pm w [.blk g5 34 p.cells, .blk g4 26 [.slice A1 es.length c1]]) (by kernel_rfl) rfl rfl (fun w hw => hw.drawn _) ?_
 refine TH.tk 0 rfl rfl rfl (gF ad2fld34_0) (fun w1 hw => hw.pick [2, 3] (by decide) rfl) ?_
 refine TH.tk 1 rfl rfl rfl (gL 0 ad2ag3) (fun w1 hw => hw.pick [2, 3] (by decide) rfl) ?_
 refine TH.tk 2 rfl rfl rfl (gives_bin rfl rfl rfl (fun w => bin_eql_f (hk) w)) (fun w1 hw => hw.pick [2, 3] (by decide) rfl) ?_
 refine TH.tk 3 rfl rfl rfl (gives_move rfl rfl) (fun w1 hw => hw.pick [2, 3] (by decide) rfl) ?_
 refine TH.off 4 rfl (by kernel_rfl) (by kernel_rfl) (by kernel_rfl) rfl rfl rfl rfl rfl rfl rfl (fun w1 hw => hw.pick [2, 3] (by decide) rfl) ?_
 refine TH.off 5 rfl (by kernel_rfl) (by kernel_rfl) (by kernel_rfl) rfl rfl rfl rfl rfl rfl rfl (fun w1 hw => hw.pick [2, 3] (by decide) rfl) ?_
 refine TH.off 6 rfl (by kernel_rfl) (by kernel_rfl) (by kernel_rfl) rfl rfl rfl rfl rfl rfl rfl (fun w1 hw => hw.pick [2, 3] (by decide) rfl) ?_
 refine TH.off 7 rfl (by kernel_rfl) (by kernel_rfl) (by kernel_rfl) rfl rfl rfl rfl rfl rfl rfl (fun w1 hw => hw.pick [2, 3] (by decide) rfl) ?_
 refine TH.off 8 rfl (by kernel_rfl) (by kernel_rfl) (by kernel_rfl) rfl rfl rfl rfl rfl rfl rfl (fun w1 hw => hw.pick [2, 3] (by decide) rfl) ?_
 refine TH.off 9 rfl (by kernel_rfl) (by kernel_rfl) (by kernel_rfl) rfl rfl rfl rfl rfl rfl rfl (fun w1 hw => hw.pick [2, 3] (by decide) rfl) ?_
 refine TH.off 10 rfl (by kernel_rfl) (by kernel_rfl) (by kernel_rfl) rfl rfl rfl rfl rfl rfl rfl (fun w1 hw => hw.pick [2, 3] (by decide) rfl) ?_
 refine TH.off 11 rfl (by kernel_rfl) (by kernel_rfl) (by kernel_rfl) rfl rfl rfl rfl rfl rfl rfl (fun w1 hw => hw.pick [2, 3] (by decide) rfl) ?_
 refine TH.off 12 rfl (by kernel_rfl) (by kernel_rfl) (by kernel_rfl) rfl rfl rfl rfl rfl rfl rfl (fun w1 hw => hw.pick [2, 3] (by decide) rfl) ?_
 refine TH.tk 13 rfl rfl rfl (gives_pick rfl rfl rfl) (fun w1 hw => hw.pick [2, 3] (by decide) rfl) ?_
 refine TH.tk 14 rfl rfl rfl (gives_assign rfl rfl) (fun w1 hw => hw.pick [2, 3] (by decide) rfl) ?_
 refine TH.done (by kernel_rfl) ?_
 refine zT (zr ?_)
 exact ret_tmp Tryz.results35 rfl (fun w1 hw => ⟨⟨false, by simp [DtP, hk]⟩, rfl, hw.bel⟩)
open Go Go.RowKit Go.Shelf Go.Sort
def SortedI (l l' : List Int) : Prop := l'.Perm l ∧ l'.Pairwise (· ≤ ·)
theorem sortInt {b n cap : Nat} {A : Option Addr} {l : List Int} {w : World} (hr : w.ownsRow b 3 1 (.slice A n cap) n (flat (ic .i64) l)) (hl : l.length = n) (hn : n ≤ 1000000) :
    Calls Tryz.prog 124 #[.slice A n cap] w fun en w' => en = .returned (.tuple #[]) ∧ ∃ l', SortedI l l' ∧ w'.ownsRow b 3 1 (.slice A n cap) n (flat (ic .i64) l') ∧ w.grownBy w' (Value.ownBlock (.slice A n cap)) := by
  rcases id hr.2 with ⟨hv, h0⟩ | ⟨q, cap', cur, hv, hb, hq, h1, h2, h3, h4⟩
  · cases hv
    obtain rfl : l = [] := List.eq_nil_of_length_eq_zero (by omega)
    refine (AnyM.slices_Sort_int_none sortLay none 0 w).mono fun en w' ⟨h5, h6⟩ => ⟨h5, [], ⟨List.Perm.refl _, List.Pairwise.nil⟩, ?_, ?_⟩
    · rw [h6]; exact hr
    · rw [h6]; exact ⟨rfl, rfl, rfl, Nat.le_refl _, fun _ _ _ => rfl⟩
  · cases hv
    subst hl
    have hqs : q < w.heap.size := (Array.getElem?_eq_some_iff.1 hq).1
    rw [flat_ic, Nat.mul_one] at h4
    have hc := AnyM.slices_Sort_int sortLay q 0 cap l w (holds_of_blockI hq h4) hqs (by omega)
    refine Calls.mono hc ?_
    rintro en w' ⟨h5, m, os, hw⟩
    have hlen : (l.mergeSort fun x y => decide (x ≤ y)).length = l.length := List.length_mergeSort l
    refine ⟨h5, l.mergeSort fun x y => decide (x ≤ y), ⟨List.mergeSort_perm _ _, ?_⟩, ?_, ?_⟩
    · have := List.pairwise_mergeSort (le := fun x y : Int => decide (x ≤ y)) (fun a b c h1 h2 => by simp only [decide_eq_true_eq] at *; exact Int.le_trans h1 h2) (fun a b => by simp only [Bool.or_eq_true, decide_eq_true_eq]; exact Int.le_total a b) l
      exact this.imp fun h => of_decide_eq_true h
    · rw [hw, flat_ic]
      exact ownsRow_sortedI hlen hb hq h1 h2 h3
    · rw [hw]; exact grownBy_sortedI _
def eaL (l : List Rs) (t : Int) : List Int := (l.filter fun r => decide (r.back < t)).map fun r => r.back - r.at_
def laL (l : List Rs) (t : Int) : List Int := (l.filter fun r => !decide (r.back < t) && decide (t ≤ r.at_)).map fun r => r.back - r.at_
section
variable {l : List Rs} {t : Int} {i : Nat} {x : Rs} {o : List Int}
theorem ea_t (hx : l[i]? = some x) (h : x.back < t) (ho : eaL (l.take i) t = o) : eaL (l.take (i + 1)) t = o ++ [x.back - x.at_] := by
  unfold eaL at ho ⊢
  rw [List.take_add_one, hx, List.filter_append, List.map_append, ho]
  simp [h]
theorem ea_f (hx : l[i]? = some x) (h : ¬ x.back < t) (ho : eaL (l.take i) t = o) : eaL (l.take (i + 1)) t = o := by
  unfold eaL at ho ⊢
  rw [List.take_add_one, hx, List.filter_append, List.map_append, ho]
  simp [h]
theorem la_t (hx : l[i]? = some x) (h : ¬ x.back < t) (h2 : x.at_ ≥ t) (ho : laL (l.take i) t = o) : laL (l.take (i + 1)) t = o ++ [x.back - x.at_] := by
  unfold laL at ho ⊢
  rw [List.take_add_one, hx, List.filter_append, List.map_append, ho]
  have : t ≤ x.at_ := h2
  simp [h, this]
theorem la_f (hx : l[i]? = some x) (h : x.back < t ∨ ¬ x.at_ ≥ t) (ho : laL (l.take i) t = o) : laL (l.take (i + 1)) t = o := by
  unfold laL at ho ⊢
  rw [List.take_add_one, hx, List.filter_append, List.map_append, ho]
  rcases h with h | h
  · simp [h]
  · have : ¬ t ≤ x.at_ := h
    simp [this]
theorem ea_mem {z : Int} (h : z ∈ eaL l t) : ∃ r ∈ l, z = r.back - r.at_ := by
  obtain ⟨r, hr, rfl⟩ := List.mem_map.1 h
  exact ⟨r, (List.mem_filter.1 hr).1, rfl⟩
theorem la_mem {z : Int} (h : z ∈ laL l t) : ∃ r ∈ l, z = r.back - r.at_ := by
  obtain ⟨r, hr, rfl⟩ := List.mem_map.1 h
  exact ⟨r, (List.mem_filter.1 hr).1, rfl⟩
end
theorem cnt_low {s : List Int} (hs : s.Pairwise (· ≤ ·)) {k : Nat} {v e : Int} (hv : s[k]? = some v) : k + 1 ≤ (s.filter fun z => decide (z ≤ e)).length ↔ v ≤ e := by
  obtain ⟨hk, hg⟩ := List.getElem?_eq_some_iff.1 hv
  have hsp : (s.filter fun z => decide (z ≤ e)) = ((s.take k).filter fun z => decide (z ≤ e)) ++ ((s.drop k).filter fun z => decide (z ≤ e)) := by rw [← List.filter_append, List.take_append_drop]
  have hd : s.drop k = v :: s.drop (k + 1) := by rw [List.drop_eq_getElem_cons hk, hg]
  have hp := List.pairwise_append.1 (by rw [List.take_append_drop]; exact hs : (s.take k ++ s.drop k).Pairwise (· ≤ ·))
  constructor
  · intro h
    refine Decidable.by_contra fun hn => ?_
    have h0 : ((s.drop k).filter fun z => decide (z ≤ e)) = [] := List.filter_eq_nil_iff.2 fun z hz => by
      rw [hd] at hz
      have : v ≤ z := by
        rcases List.mem_cons.1 hz with h1 | h1
        · rw [h1]; exact Int.le_refl _
        · have := hp.2.1
          rw [hd] at this
          exact (List.pairwise_cons.1 this).1 z h1
      simp; omega
    have h1 := List.length_filter_le (fun z => decide (z ≤ e)) (s.take k)
    rw [hsp, h0, List.append_nil] at h
    rw [List.length_take] at h1
    omega
  · intro h
    have h0 : ((s.take k).filter fun z => decide (z ≤ e)) = s.take k := List.filter_eq_self.2 fun z hz => by
      have := hp.2.2 z hz v (by rw [hd]; exact List.mem_cons_self)
      simp; omega
    rw [hsp, h0, hd, List.filter_cons_of_pos (by simpa using h), List.length_append, List.length_take, List.length_cons]
    omega
theorem cnt_high {s : List Int} (hs : s.Pairwise (· ≤ ·)) {k : Nat} {v e : Int} (hv : s[k]? = some v) : s.length - k ≤ (s.filter fun z => decide (e ≤ z)).length ↔ e ≤ v := by
  obtain ⟨hk, hg⟩ := List.getElem?_eq_some_iff.1 hv
  have hsp : (s.filter fun z => decide (e ≤ z)) = ((s.take (k + 1)).filter fun z => decide (e ≤ z)) ++ ((s.drop (k + 1)).filter fun z => decide (e ≤ z)) := by rw [← List.filter_append, List.take_append_drop]
  have ht : s.take (k + 1) = s.take k ++ [v] := by rw [List.take_add_one, hv]; rfl
  have hp := List.pairwise_append.1 (by rw [List.take_append_drop]; exact hs : (s.take (k + 1) ++ s.drop (k + 1)).Pairwise (· ≤ ·))
  constructor
  · intro h
    refine Decidable.by_contra fun hn => ?_
    have h0 : ((s.take (k + 1)).filter fun z => decide (e ≤ z)) = [] := List.filter_eq_nil_iff.2 fun z hz => by
      have : z ≤ v := by
        rw [ht] at hz
        rcases List.mem_append.1 hz with h1 | h1
        · have := hp.1
          rw [ht] at this
          exact (List.pairwise_append.1 this).2.2 z h1 v (List.mem_singleton.2 rfl)
        · rw [List.mem_singleton.1 h1]; exact Int.le_refl _
      simp; omega
    have h1 := List.length_filter_le (fun z => decide (e ≤ z)) (s.drop (k + 1))
    rw [hsp, h0, List.nil_append] at h
    rw [List.length_drop] at h1
    omega
  · intro h
    have h0 : ((s.drop (k + 1)).filter fun z => decide (e ≤ z)) = s.drop (k + 1) := List.filter_eq_self.2 fun z hz => by
      have := hp.2.2 v (by rw [ht]; exact List.mem_append_right _ (List.mem_singleton.2 rfl)) z hz
      simp; omega
    rw [hsp, h0, ht, List.filter_append, List.filter_cons_of_pos (by simpa using h), List.length_append, List.length_append, List.length_drop, List.length_cons]
    omega
def CgF (ea la : List Int) (prb gro : Int) : Prop := ∃ e ∈ ea, prb ≤ ((ea.filter fun z => decide (z ≤ e)).length : Int) ∧ prb ≤ ((la.filter fun z => decide (gro ≤ z - e)).length : Int)
theorem cg_short {ea la : List Int} {prb gro : Int} (h : (ea.length : Int) < prb ∨ (la.length : Int) < prb) : ¬ CgF ea la prb gro := by
  rintro ⟨e, _, h1, h2⟩
  have h3 := List.length_filter_le (fun z => decide (z ≤ e)) ea
  have h4 := List.length_filter_le (fun z => decide (gro ≤ z - e)) la
  omega
theorem cg_iff {ea la sE sL : List Int} {K : Nat} {prb gro e0 b0 : Int} (hE : SortedI ea sE) (hL : SortedI la sL) (hK : prb = K) (h1 : 1 ≤ K) (h2 : K ≤ la.length) (he : sE[K - 1]? = some e0) (hb : sL[la.length - K]? = some b0) : CgF ea la prb gro ↔ b0 - e0 ≥ gro := by
  subst hK
  have hlE : ∀ e, (ea.filter fun z => decide (z ≤ e)).length = (sE.filter fun z => decide (z ≤ e)).length := fun e => ((hE.1.filter _).length_eq).symm
  have hf : ∀ e, (la.filter fun z => decide (gro ≤ z - e)).length = (sL.filter fun z => decide (gro + e ≤ z)).length := fun e => by
    rw [← (hL.1.filter _).length_eq]
    congr 2; funext z; congr 1; rw [eq_iff_iff]; omega
  have hn : sL.length = la.length := hL.1.length_eq
  have hi : ∀ e, K ≤ (sE.filter fun z => decide (z ≤ e)).length ↔ e0 ≤ e := fun e => by
    have := cnt_low hE.2 (e := e) he
    rw [show K - 1 + 1 = K by omega] at this; exact this
  have hj : ∀ e, K ≤ (sL.filter fun z => decide (gro + e ≤ z)).length ↔ gro + e ≤ b0 := fun e => by
    have := cnt_high hL.2 (e := gro + e) hb
    rw [hn, show la.length - (la.length - K) = K by omega] at this; exact this
  constructor
  · rintro ⟨e, _, h3, h4⟩
    rw [hlE] at h3
    rw [hf] at h4
    have := (hi e).1 (by omega)
    have := (hj e).1 (by omega)
    omega
  · intro h
    refine ⟨e0, hE.1.mem_iff.1 (List.mem_of_getElem? he), ?_, ?_⟩
    · rw [hlE]; have := (hi e0).2 (Int.le_refl _); omega
    · rw [hf]; have := (hj e0).2 (by omega); omega
set_option maxRecDepth 20000
theorem congestion_l (A0 : Option Addr) (c0 : Nat) (l : List Rs) (u : Ru) (t : Int) (w : World) (hr : Reads w w.heap.size 17 A0 l.length (flat Rs.cells l)) (hl1 : l.length ≤ 100000) (hin : ∀ r ∈ l, r.inRange) :
  Calls Tryz.prog 76 #[.slice A0 l.length c0, .agg u.cells.toArray, .int .i64 t] w fun e w' => ∃ x : {b : Bool // b = true ↔ u.prb < 1 ∨ CgF (eaL l t) (laL l t) u.prb u.gro}, e = .returned (.bool x.1) ∧ Below w.heap.size w w' := by
 refine begin_ (vs := [.slice A0 l.length c0, .agg u.cells.toArray, .int .i64 t]) Tryz.func76 rfl rfl rfl ?_ (Pm.start w)
 refine zSG ?_
 refine TL.pnew rfl rfl rfl (exec_box (cs := u.cells) rfl rfl rfl) (fun g4 => ?_)
 refine TL.as_ ?_
 refine zET (zS (zSG (TL.v (gF arpfld28_2) ?_)))
 refine TL.v (gL 0 pcmag3) ?_
 refine TL.sp bin_lss (fun q13 => ?_) (fun q13 => ?_)
 ·refine zET (zc (zSG (TL.as_ ?_)))
  refine zET (zr (zR ?_))
  have hres : true = true ↔ u.prb < 1 ∨ CgF (eaL l t) (laL l t) u.prb u.gro := ⟨fun _ => .inl q13, fun _ => rfl⟩
  exact ret_tmp Tryz.results76 rfl (fun w1 hw => ⟨⟨true, hres⟩, rfl, hw.bel⟩)
 refine zET (zd (zk (zT (zSG (TL.rn 2 rfl (zET (zS (zSG (TL.mv ?_)))))))))
 refine TL.v (gN Tryz.underlying23) ?_
 refine TL.mv ?_
 refine zET (zB (TC.nilrow 3 1 ?_))
 refine TC.nilrow 3 1 ?_
 refine TC.loop_ (α := {y : Nat × (Option Addr × Nat) × (Option Addr × Nat) × List Int × List Int // y.1 ≤ l.length ∧ eaL (l.take y.1) t = y.2.2.2.1 ∧ laL (l.take y.1) t = y.2.2.2.2 ∧ y.2.2.2.1.length ≤ y.1 ∧ y.2.2.2.2.length ≤ y.1 ∧ y.2.2.2.1.length ≤ y.2.1.2 ∧ y.2.1.2 ≤ maxLen ∧ y.2.2.2.2.length ≤ y.2.2.1.2 ∧ y.2.2.1.2 ≤ maxLen}) (fun y => [(2, .int .i64 t), (4, .pointer (some ⟨g4, 0, none⟩)), (14, .slice A0 l.length c0), (15, .int .i64 (l.length : Nat)), (16, .int .i64 ((y.1.1 : Nat) : Int)), (7, .slice y.1.2.1.1 y.1.2.2.2.1.length y.1.2.1.2), (8, .slice y.1.2.2.1.1 y.1.2.2.2.2.length y.1.2.2.1.2)]) (fun y => Pm w [.row (.slice y.1.2.1.1 y.1.2.2.2.1.length y.1.2.1.2) 3 1 y.1.2.2.2.1.length (flat (ic .i64) y.1.2.2.2.1), .row (.slice y.1.2.2.1.1 y.1.2.2.2.2.length y.1.2.2.1.2) 3 1 y.1.2.2.2.2.length (flat (ic .i64) y.1.2.2.2.2), .blk g4 28 u.cells]) (fun y => l.length - y.1.1) (⟨(0, (none, 0), (none, 0), [], []), Nat.zero_le _, rfl, rfl, Nat.le_refl _, Nat.le_refl _, Nat.le_refl _, Nat.zero_le _, Nat.le_refl _, Nat.zero_le _⟩) ⟨rfl, rfl, rfl, rfl, rfl, rfl, rfl, trivial⟩ (fun w1 hw => hw) ?_
 rintro ⟨⟨i, ⟨Ae, ce⟩, ⟨Al, cl⟩, ea, la⟩, hi, hE, hL, hel, hll, hc1, hc2, hc3, hc4⟩
 dsimp only at hi hE hL hel hll hc1 hc2 hc3 hc4 ⊢
 refine zSG ?_
 refine TL.sp bin_lss (fun q17 => ?_) (fun q17 => ?_)
 ·refine zET (zS (zc (zk (zT (zS (zB (zSG ?_)))))))
  have hi18 : i < l.length := by omega
  obtain ⟨x18, hx18⟩ := ex_at hi18
  obtain ⟨b18, o18, hA18, hbb18, hc18⟩ := hr.ad (by omega) (by decide)
  have hin18 := hin x18 (List.mem_of_getElem? hx18)
  unfold Rs.inRange at hin18
  refine TL.val rfl rfl rfl (gA (i := i) Tryz.underlying23 prssz65 rfl rfl rfl rfl hA18 (by omega)) ?_
  refine TL.v (gR rs_cel prsag65 prssz65 hbb18 hx18 hc18) ?_
  refine TL.pnew rfl rfl rfl (exec_alloc (cs := [.int .i64 0, .int .i64 0, .int .i64 0, .int .i64 0, .int .u32 0, .int .i64 0, .int .i64 0, .int .i64 0, .bool false, .bool false, .int .i64 0, .int .u32 0, .int .i64 0, .int .i64 0, .int .i64 0, .int .i64 0, .int .i64 0]) rfl arpzv65 rfl) (fun g10 => ?_)
  refine TL.pstore (k := 0) (vs := x18.cells) rfl rfl rfl rfl rfl rfl rfl prssz65 (rs_cel.one _) (by show 17 ≤ 17; decide) (L' := [.blk g10 65 x18.cells, .row (.slice Ae ea.length ce) 3 1 ea.length (flat (ic .i64) ea), .row (.slice Al la.length cl) 3 1 la.length (flat (ic .i64) la), .blk g4 28 u.cells]) rfl ?_
  refine zET (zB (zSG (TL.v (gF prsfld65_10) ?_)))
  refine TL.v (gL 0 pcmag3) ?_
  refine TL.mv ?_
  refine TL.sp bin_lss (fun q24 => ?_) (fun q24 => ?_)
  ·refine TL.as_ ?_
   refine zET (zc (zG (TL.mv ?_)))
   refine TL.v (gF prsfld65_10) ?_
   refine TL.v (gL 0 pcmag3) ?_
   refine TL.v (gF prsfld65_3) ?_
   refine TL.v (gL 0 pcmag3) ?_
   refine TL.val rfl rfl rfl (gives_bin rfl rfl rfl (fun w => bin_sub_ (r := x18.back - x18.at_) (by simp only [IntKind.wrap_i64]; omega) w)) ?_
   refine TL.prowS (e := 3) (size := 1) (cs := flat (ic .i64) [x18.back - x18.at_]) rfl rfl rfl rfl rfl (fun w => adtbs106_1_5377 _ w) (by decide) rfl (fun g31 => ?_)
   refine TL.appendT (k := 2) rfl rfl rfl rfl Tryz.underlying106 adtel106 rfl rfl rfl (fun w1 hw => pm_reads hw (k := 0) rfl) (flat_one (ic_cel .i64) _) (by show _ * 8 ≤ _; omega) ((ea ++ [x18.back - x18.at_]).length) (by rw [List.length_append]; rfl) (flat (ic .i64) (ea ++ [x18.back - x18.at_])) ((flat_app _ _).symm) (fun A32 c32 hA321 hA322 => ?_)
   refine TL.as_ ?_
   refine zE (zN (zN (zT (zG (TL.v (gD ((i + 1 : Nat) : Int)) ?_)))))
   refine TL.mv ?_
   refine zE ?_
   exact TX.round (⟨(i + 1, (A32, c32), (Al, cl), ea ++ [x18.back - x18.at_], la), by dsimp only; omega, ea_t hx18 q24 hE, la_f hx18 (.inl q24) hL, by dsimp only; rw [List.length_append]; show ea.length + 1 ≤ _; omega, by dsimp only; omega, hA321, hA322, hc3, hc4⟩) (by show l.length - (i + 1) < l.length - i; omega) ⟨rfl, rfl, rfl, rfl, rfl, rfl, rfl, trivial⟩ (fun w1 hw => hw.pick [2, 3, 4] (by decide) rfl)
  refine TL.as_ ?_
  refine zET (zd (zSG (TL.v (gF prsfld65_3) ?_)))
  refine TL.v (gL 0 pcmag3) ?_
  refine TL.mv ?_
  refine TL.sp bin_geq (fun q37 => ?_) (fun q37 => ?_)
  ·refine TL.as_ ?_
   refine zET (zc (zG (TL.mv ?_)))
   refine TL.v (gF prsfld65_10) ?_
   refine TL.v (gL 0 pcmag3) ?_
   refine TL.v (gF prsfld65_3) ?_
   refine TL.v (gL 0 pcmag3) ?_
   refine TL.val rfl rfl rfl (gives_bin rfl rfl rfl (fun w => bin_sub_ (r := x18.back - x18.at_) (by simp only [IntKind.wrap_i64]; omega) w)) ?_
   refine TL.prowS (e := 3) (size := 1) (cs := flat (ic .i64) [x18.back - x18.at_]) rfl rfl rfl rfl rfl (fun w => adtbs106_1_5377 _ w) (by decide) rfl (fun g44 => ?_)
   refine TL.appendT (k := 3) rfl rfl rfl rfl Tryz.underlying106 adtel106 rfl rfl rfl (fun w1 hw => pm_reads hw (k := 0) rfl) (flat_one (ic_cel .i64) _) (by show _ * 8 ≤ _; omega) ((la ++ [x18.back - x18.at_]).length) (by rw [List.length_append]; rfl) (flat (ic .i64) (la ++ [x18.back - x18.at_])) ((flat_app _ _).symm) (fun A45 c45 hA451 hA452 => ?_)
   refine TL.as_ ?_
   refine zE (zN (zN (zT (zG (TL.v (gD ((i + 1 : Nat) : Int)) ?_)))))
   refine TL.mv ?_
   refine zE ?_
   exact TX.round (⟨(i + 1, (Ae, ce), (A45, c45), ea, la ++ [x18.back - x18.at_]), by dsimp only; omega, ea_f hx18 q24 hE, la_t hx18 q24 q37 hL, by dsimp only; omega, by dsimp only; rw [List.length_append]; show la.length + 1 ≤ _; omega, hc1, hc2, hA451, hA452⟩) (by show l.length - (i + 1) < l.length - i; omega) ⟨rfl, rfl, rfl, rfl, rfl, rfl, rfl, trivial⟩ (fun w1 hw => hw.pick [2, 3, 4] (by decide) rfl)
  refine TL.as_ ?_
  refine zET (zd (zk (zN (zN (zT (zG (TL.v (gD ((i + 1 : Nat) : Int)) ?_)))))))
  refine TL.mv ?_
  refine zE ?_
  exact TX.round (⟨(i + 1, (Ae, ce), (Al, cl), ea, la), by dsimp only; omega, ea_f hx18 q24 hE, la_f hx18 (.inr q37) hL, by dsimp only; omega, by dsimp only; omega, hc1, hc2, hc3, hc4⟩) (by show l.length - (i + 1) < l.length - i; omega) ⟨rfl, rfl, rfl, rfl, rfl, rfl, rfl, trivial⟩ (fun w1 hw => hw.pick [1, 2, 3] (by decide) rfl)
 refine zET (zS (zd (zx (zX (zX (zM (zT (zS (zS ?_)))))))))
 have hE2 : eaL l t = ea := by rw [List.take_of_length_le (by omega)] at hE; exact hE
 have hL2 : laL l t = la := by rw [List.take_of_length_le (by omega)] at hL; exact hL
 refine zG (TL.mv ?_)
 refine TL.v (gN Tryz.underlying106) ?_
 refine TL.v (gF arpfld28_2) ?_
 refine TL.v (gL 2 pcmag3) ?_
 refine TL.sp bin_lss (fun q51 => ?_) (fun q51 => ?_)
 ·refine TL.rn 7 rfl (zET (zc (zSG (TL.as_ ?_))))
  refine zET (zr (zR ?_))
  have hres : false = true ↔ u.prb < 1 ∨ CgF (eaL l t) (laL l t) u.prb u.gro := ⟨fun h => (by cases h), fun h => absurd h (by rintro (h | h); exact q13 h; rw [hE2, hL2] at h; exact cg_short (by omega) h)⟩
  exact ret_tmp Tryz.results76 rfl (fun w1 hw => ⟨⟨false, hres⟩, rfl, hw.bel⟩)
 refine TL.rn 2 rfl (TL.ov (gN Tryz.underlying106) ?_)
 refine TL.ov (gF arpfld28_2) ?_
 refine TL.ov (gL 2 pcmag3) ?_
 refine TL.gu ?_
 refine TL.sp bin_lss (fun q57 => ?_) (fun q57 => ?_)
 ·refine TL.pk ?_
  refine zET (zc (zSG (TL.as_ ?_)))
  refine zET (zr (zR ?_))
  have hres : false = true ↔ u.prb < 1 ∨ CgF (eaL l t) (laL l t) u.prb u.gro := ⟨fun h => (by cases h), fun h => absurd h (by rintro (h | h); exact q13 h; rw [hE2, hL2] at h; exact cg_short (by omega) h)⟩
  exact ret_tmp Tryz.results76 rfl (fun w1 hw => ⟨⟨false, hres⟩, rfl, hw.bel⟩)
 refine TL.pk ?_
 refine zET (zd (zk (zT (zSG (TL.mv ?_)))))
 refine TL.turnRowD (k := 0) (fun ys => SortedI ea ys) rfl rfl rfl rfl rfl Tryz.func124 (by decide) rfl rfl (fun w1 hw hr9 => sortInt hr9 rfl (by omega)) (fun sE hsE => ?_)
 try dsimp only [List.set_cons_zero, List.set_cons_succ]
 have hsEl : sE.length = ea.length := hsE.1.length_eq
 refine zET (zSG (TL.mv ?_))
 refine TL.turnRowD (k := 1) (fun ys => SortedI la ys) rfl rfl rfl rfl rfl Tryz.func124 (by decide) rfl rfl (fun w1 hw hr9 => sortInt hr9 rfl (by omega)) (fun sL hsL => ?_)
 try dsimp only [List.set_cons_zero, List.set_cons_succ]
 have hsLl : sL.length = la.length := hsL.1.length_eq
 refine zET (zS ?_)
 obtain ⟨K, hK⟩ : ∃ K : Nat, u.prb = K := ⟨u.prb.toNat, by omega⟩
 have hbsE : ∀ z ∈ sE, 0 ≤ z ∧ z ≤ 2251799813685248 := fun z hz => by
  obtain ⟨r, hr1, rfl⟩ := ea_mem (by rw [hE2]; exact hsE.1.mem_iff.1 hz)
  have := hin r hr1
  unfold Rs.inRange at this
  omega
 have hbsL : ∀ z ∈ sL, 0 ≤ z ∧ z ≤ 2251799813685248 := fun z hz => by
  obtain ⟨r, hr1, rfl⟩ := la_mem (by rw [hL2]; exact hsL.1.mem_iff.1 hz)
  have := hin r hr1
  unfold Rs.inRange at this
  omega
 refine TC.fact (p := ∃ g, Al = some ⟨g, 0, none⟩) (fun w1 hw => rowA hw (k := 1) rfl (by omega)) ?_
 rintro ⟨g_Al, rfl⟩
 refine TC.fact (p := ∃ g, Ae = some ⟨g, 0, none⟩) (fun w1 hw => rowA hw (k := 0) rfl (by omega)) ?_
 rintro ⟨g_Ae, rfl⟩
 refine TC.quietQ (by kernel_rfl) (by kernel_rfl) (fun w hw => hw.drawn _) ?_
 refine TQ.rn 2 rfl (TQ.v (gN Tryz.underlying106) ?_)
 refine TQ.v (gF arpfld28_2) ?_
 refine TQ.v (gL 2 pcmag3) ?_
 refine TQ.val rfl rfl rfl (gives_bin rfl rfl rfl (fun w => bin_sub_ (r := ((la.length - K : Nat) : Int)) (by simp only [IntKind.wrap_i64]; omega) w)) ?_
 have hi69 : la.length - K < sL.length := by omega
 obtain ⟨x69, hx69⟩ := ex_at hi69
 have hvx69 := hbsL x69 (List.mem_of_getElem? hx69)
 refine TQ.val rfl rfl rfl (gA (i := (la.length - K)) Tryz.underlying106 pcmsz3 rfl rfl rfl rfl rfl (by omega)) ?_
 refine TQ.val rfl rfl rfl (gives_load (v := .int .i64 x69) rfl rfl pcmag3 (fun w1 hw => flat_row (ic_cel .i64) hw (q := 1) rfl hx69 0 _ rfl)) ?_
 refine TQ.val rfl rfl rfl (gives_move rfl rfl) ?_
 refine TQ.v (gF arpfld28_2) ?_
 refine TQ.v (gL 2 pcmag3) ?_
 refine TQ.val rfl rfl rfl (gives_bin rfl rfl rfl (fun w => bin_sub_ (r := ((K - 1 : Nat) : Int)) (by simp only [IntKind.wrap_i64]; omega) w)) ?_
 have hi75 : K - 1 < sE.length := by omega
 obtain ⟨x75, hx75⟩ := ex_at hi75
 have hvx75 := hbsE x75 (List.mem_of_getElem? hx75)
 refine TQ.val rfl rfl rfl (gA (i := (K - 1)) Tryz.underlying106 pcmsz3 rfl rfl rfl rfl rfl (by omega)) ?_
 refine TQ.val rfl rfl rfl (gives_load (v := .int .i64 x75) rfl rfl pcmag3 (fun w1 hw => flat_row (ic_cel .i64) hw (q := 0) rfl hx75 0 _ rfl)) ?_
 refine TQ.val rfl rfl rfl (gives_bin rfl rfl rfl (fun w => bin_sub_ (r := x69 - x75) (by simp only [IntKind.wrap_i64]; omega) w)) ?_
 refine TQ.v (gF arpfld28_1) ?_
 refine TQ.v (gL 2 pcmag3) ?_
 refine TQ.sp bin_geq (fun q80 => ?_) (fun q80 => ?_)
 ·refine TQ.val rfl rfl rfl (gives_assign rfl rfl) ?_
  refine TQ.fin ?_
  refine zT (zr ?_)
  have hres : true = true ↔ u.prb < 1 ∨ CgF (eaL l t) (laL l t) u.prb u.gro := ⟨fun _ => .inr (by rw [hE2, hL2]; exact (cg_iff hsE hsL hK (by omega) (by omega) hx75 hx69).2 q80), fun _ => rfl⟩
  exact ret_tmp Tryz.results76 rfl (fun w1 hw => ⟨⟨true, hres⟩, rfl, hw.bel⟩)
 refine TQ.val rfl rfl rfl (gives_assign rfl rfl) ?_
 refine TQ.fin ?_
 refine zT (zr ?_)
 have hres : false = true ↔ u.prb < 1 ∨ CgF (eaL l t) (laL l t) u.prb u.gro := ⟨fun h => (by cases h), fun h => absurd h (by rintro (h | h); exact q13 h; rw [hE2, hL2] at h; exact q80 ((cg_iff hsE hsL hK (by omega) (by omega) hx75 hx69).1 h))⟩
 exact ret_tmp Tryz.results76 rfl (fun w1 hw => ⟨⟨false, hres⟩, rfl, hw.bel⟩)
set_option maxRecDepth 20000
theorem vld_in {r : Rs} (h : vldRs r = true) : r.inRange := by
 unfold vldRs at h
 simp only [Bool.and_eq_true, decide_eq_true_eq] at h
 exact Decidable.by_contra fun h1 => by have := chk_range h1; omega
theorem fin_in {r : Rs} (h : finRs r = true) : 1 ≤ r.ttl ∧ r.ttl ≤ 255 := by
 unfold finRs usbRs at h
 simp only [Bool.and_eq_true] at h
 have := vld_in h.2.2
 unfold Rs.inRange at this
 omega
def IsB (l : List Rs) (t e : Int) : Prop := (e = 0 ∧ ∀ r ∈ l, finRs r = true → t < r.back) ∨ ((∃ r ∈ l, finRs r = true ∧ r.back ≤ t ∧ r.ttl = e) ∧ ∀ r ∈ l, finRs r = true → r.back ≤ t → e ≤ r.ttl)
theorem isB_step (t : Int) : ∀ (l p : List Rs) (e : Int), IsB p t e → IsB (p ++ l) t (l.foldl (fun e r => if fitB t e r then r.ttl else e) e)
 | [], p, e, h => by rw [List.append_nil]; exact h
 | r :: l, p, e, h => by
  have h1 : IsB (p ++ [r]) t (if fitB t e r then r.ttl else e) := by
   have hm : ∀ {x : Rs}, x ∈ p ++ [r] ↔ x ∈ p ∨ x = r := by intro x; rw [List.mem_append, List.mem_singleton]
   by_cases hf : finRs r = true ∧ r.back ≤ t
   ·by_cases hc : e = 0 ∨ r.ttl < e
    ·have : fitB t e r = true := by unfold fitB; simp [hf, hc]
     rw [if_pos this]
     refine .inr ⟨⟨r, hm.2 (.inr rfl), hf.1, hf.2, rfl⟩, fun x hx hx2 hx3 => ?_⟩
     rcases hm.1 hx with h2 | h2
     ·rcases h with ⟨h3, h4⟩ | ⟨⟨y, hy, hy2, hy3, hy4⟩, h4⟩
      ·have := h4 x h2 hx2; omega
      have h5 := h4 x h2 hx2 hx3
      have h6 := fin_in hy2
      omega
     rw [h2]; exact Int.le_refl _
    have : fitB t e r = false := by unfold fitB; simp [hf]; omega
    rw [if_neg (by rw [this]; decide)]
    rcases h with ⟨h3, h4⟩ | ⟨⟨y, hy, hy2, hy3, hy4⟩, h4⟩
    ·exact absurd (.inl h3) hc
    refine .inr ⟨⟨y, hm.2 (.inl hy), hy2, hy3, hy4⟩, fun x hx hx2 hx3 => ?_⟩
    rcases hm.1 hx with h2 | h2
    ·exact h4 x h2 hx2 hx3
    rw [h2]; omega
   have : fitB t e r = false := by
    unfold fitB
    by_cases h8 : finRs r = true
    ·have : ¬ r.back ≤ t := fun h9 => hf ⟨h8, h9⟩
     simp [this]
    simp [h8]
   rw [if_neg (by rw [this]; decide)]
   rcases h with ⟨h3, h4⟩ | ⟨⟨y, hy, hy2, hy3, hy4⟩, h4⟩
   ·refine .inl ⟨h3, fun x hx hx2 => ?_⟩
    rcases hm.1 hx with h2 | h2
    ·exact h4 x h2 hx2
    subst h2; exact Int.not_le.1 fun h9 => hf ⟨hx2, h9⟩
   refine .inr ⟨⟨y, hm.2 (.inl hy), hy2, hy3, hy4⟩, fun x hx hx2 hx3 => ?_⟩
   rcases hm.1 hx with h2 | h2
   ·exact h4 x h2 hx2 hx3
   subst h2; exact absurd ⟨hx2, hx3⟩ hf
  have := isB_step t l (p ++ [r]) _ h1
  rwa [List.append_assoc] at this
theorem isB (l : List Rs) (t : Int) : IsB l t (bend l t) := isB_step t l [] 0 (.inl ⟨rfl, fun r hr => absurd hr List.not_mem_nil⟩)
theorem lost_mono {e e' t : Int} (h : e ≤ e') : ∀ l : List Rs, lostN e' t l ≤ lostN e t l
 | [] => Nat.le_refl _
 | r :: l => by
  have ih := lost_mono (t := t) h l
  unfold lostN at ih ⊢
  rw [List.filter_cons, List.filter_cons]
  by_cases h1 : lostR e' t r = true
  ·have h2 : lostR e t r = true := by
    unfold lostR at h1 ⊢
    simp only [Bool.and_eq_true, Bool.not_eq_true', decide_eq_true_eq] at h1 ⊢
    exact ⟨⟨h1.1.1, by omega⟩, h1.2⟩
   rw [if_pos h1, if_pos h2, List.length_cons, List.length_cons]; omega
  rw [if_neg h1]
  split
  ·rw [List.length_cons]; omega
  exact ih
def hitB (y : List Rs) (losses t : Int) (x : Rs) : Prop := finRs x = true ∧ x.back ≤ t ∧ losses ≤ (lostN x.ttl t y : Int)
theorem bh_iff {y : List Rs} {losses t : Int} : bhF y losses t = true ↔ ∃ x ∈ y, hitB y losses t x := by
 unfold bhF
 simp only [Bool.and_eq_true, decide_eq_true_eq]
 rcases isB y t with ⟨h1, h2⟩ | ⟨⟨r, hr, hr2, hr3, hr4⟩, h2⟩
 ·rw [h1]
  constructor
  ·rintro ⟨h3, _⟩; omega
  rintro ⟨x, hx, h3, h4, _⟩; have := h2 x hx h3; omega
 constructor
 ·rintro ⟨_, h3⟩; exact ⟨r, hr, hr2, hr3, by rw [hr4]; exact h3⟩
 rintro ⟨x, hx, h3, h4, h5⟩
 have h6 := fin_in hr2
 have h7 := lost_mono (t := t) (h2 x hx h3 h4) y
 exact ⟨by omega, by omega⟩
theorem miss_snoc {y : List Rs} {losses t : Int} {i : Nat} {x : Rs} (h : ∀ z ∈ y.take i, ¬ hitB y losses t z) (hx : y[i]? = some x) (hn : ¬ hitB y losses t x) : ∀ z ∈ y.take (i + 1), ¬ hitB y losses t z := fun z hz => by
 rcases (mem_take_snoc hx).1 hz with h1 | h1
 ·exact h z h1
 rw [h1]; exact hn
theorem abrag34 (w : World) : (isAgg 34).run Tryz.prog w = .ok true w := rfl
theorem abrsz34 (w : World) : (sizeOf 34).run Tryz.prog w = .ok 8 w := rfl
theorem rblackhole_any (A0 : Option Addr) (c0 : Nat) (l : List Rs) (u : Ru) (p : Rp) (w : World) (hr : Reads w w.heap.size 17 A0 l.length (flat Rs.cells l)) (hl1 : l.length ≤ 100000) (hok : ∀ r ∈ l, r.Ok) :
  Calls Tryz.prog 30 #[.slice A0 l.length c0, .agg u.cells.toArray, .agg p.cells.toArray] w fun e w' => ∃ x : {b : Bool // b = true ↔ BhP l u p}, e = .returned (.bool x.1) ∧ Below w.heap.size w w' := by
 refine begin_ (vs := [.slice A0 l.length c0, .agg u.cells.toArray, .agg p.cells.toArray]) Tryz.func30 rfl rfl rfl ?_ (Pm.start w)
 refine zSG ?_
 refine TL.pnew rfl rfl rfl (exec_box (cs := u.cells) rfl rfl rfl) (fun g4 => ?_)
 refine TL.pnew rfl rfl rfl (exec_box (cs := p.cells) rfl rfl rfl) (fun g5 => ?_)
 refine TL.as_ ?_
 refine zET (zS (zSG (TL.v (gF arpfld34_0) ?_)))
 refine TL.v (gL 0 pcmag3) ?_
 refine TL.sp bin_neq (fun q13 => ?_) (fun q13 => ?_)
 ·refine zET (zc (zSG (TL.as_ ?_)))
  refine zET (zr (zR ?_))
  exact ret_tmp Tryz.results30 rfl (fun w1 hw => ⟨⟨false, fun h => (by cases h), fun h => absurd h.1 q13⟩, rfl, hw.bel⟩)
 refine zET (zd (zk (zT (zSG (TL.mv ?_)))))
 refine TL.v (gV 0 (.agg (p.cells).toArray) abrag34 abrsz34) ?_
 refine TL.pcallPm (α := {y : (Option Addr × Nat) × List Rs // IsSt l p.trc p.flow y.2 ∧ y.2.length ≤ y.1.2 ∧ y.1.2 ≤ maxLen}) (fun x => .slice x.1.1.1 x.1.2.length x.1.1.2) (fun x => [.row (.slice x.1.1.1 x.1.2.length x.1.1.2) 65 17 x.1.2.length (flat Rs.cells x.1.2)]) rfl rfl rfl rfl rfl Tryz.func74 (by decide) rfl (fun w1 hw => about_any A0 c0 l p w1 (hr.up hw.bel) hl1 hok) ?_
 rintro ⟨⟨⟨R16, rc16⟩, st16⟩, hP16, hR161, hR162⟩
 dsimp only [List.cons_append, List.nil_append]
 dsimp only at hP16 hR161 hR162 ⊢
 refine TL.as_ ?_
 refine zET (zS (zS ?_))
 have hol := hP16.le
 refine zG (TL.as_ ?_)
 refine zET (zB ?_)
 refine TC.loop_ (α := {i : Nat // i ≤ st16.length ∧ ∀ z ∈ st16.take i, ¬ hitB st16 u.los p.at_ z}) (fun y => [(4, .pointer (some ⟨g4, 0, none⟩)), (5, .pointer (some ⟨g5, 0, none⟩)), (7, .slice R16 st16.length rc16), (8, .int .i64 ((y.1 : Nat) : Int))]) (fun y => Pm w [.row (.slice R16 st16.length rc16) 65 17 st16.length (flat Rs.cells st16), .blk g5 34 p.cells, .blk g4 28 u.cells]) (fun y => st16.length - y.1) (⟨0, Nat.zero_le _, fun z hz => by rw [List.take_zero] at hz; cases hz⟩) ⟨rfl, rfl, rfl, rfl, trivial⟩ (fun w1 hw => hw) ?_
 rintro ⟨i, hi, hmi⟩
 try dsimp only at hi hmi ⊢
 refine zS (zSG (TL.rn 2 rfl (TL.v (gN Tryz.underlying23) ?_)))
 refine TL.sp bin_lss (fun q20 => ?_) (fun q20 => ?_)
 ·refine zET (zc (zk (zT (zS (zB (zS (zS (TC.fact (p := ∃ g, R16 = some ⟨g, 0, none⟩) (fun w1 hw => rowA hw (k := 0) rfl (by omega)) ?_))))))))
  rintro ⟨g_R16, rfl⟩
  refine TC.quietQ (by kernel_rfl) (by kernel_rfl) (fun w hw => hw.drawn _) ?_
  refine TQ.rn 2 rfl ?_
  have hi25 : i < st16.length := by omega
  obtain ⟨x25, hx25⟩ := ex_at hi25
  refine TQ.val rfl rfl rfl (gA (i := i) Tryz.underlying23 prssz65 rfl rfl rfl rfl rfl (by omega)) ?_
  refine TQ.val rfl rfl rfl (gives_loadR (off := 0 + i * 17) rfl rfl prsag65 prssz65 (rs_cel.len x25) (fun w1 hw j9 u9 h9 => flat_row rs_cel hw (q := 0) rfl hx25 j9 u9 h9)) ?_
  refine TQ.callsplit rfl rfl rfl rfl rfl Tryz.func75 (by decide) rfl (fun w1 hw => rfinRs_any x25 w1) (fun h27 => ?_) (fun h27 => ?_)
  ·refine TQ.rn 4 rfl ?_
   refine TQ.on rfl rfl rfl ?_
   refine TQ.val rfl rfl rfl (gA (i := i) Tryz.underlying23 prssz65 rfl rfl rfl rfl rfl (by omega)) ?_
   refine TQ.ov (gF prsfld65_10) ?_
   refine TQ.on rfl rfl rfl ?_
   refine TQ.val rfl rfl rfl (gives_load (v := .int .i64 x25.back) rfl rfl pcmag3 (fun w1 hw => flat_row rs_cel hw (q := 0) rfl hx25 10 _ rfl)) ?_
   refine TQ.ov (gF arpfld34_4) ?_
   refine TQ.ov (gL 1 pcmag3) ?_
   refine TQ.on rfl rfl rfl ?_
   refine TQ.sp bin_gtr (fun q37 => ?_) (fun q37 => ?_)
   ·refine TQ.val rfl rfl rfl (gives_pick rfl rfl rfl) ?_
    refine TQ.fin ?_
    refine zT (zc (zx (zX (zM (zT (zG (TL.mv ?_)))))))
    refine TL.v (gD ((i + 1 : Nat) : Int)) ?_
    refine TL.as_ ?_
    refine zE ?_
    exact TX.round (⟨i + 1, by omega, miss_snoc hmi hx25 (fun h => by have := h.2.1; omega)⟩) (by show st16.length - (i + 1) < st16.length - i; omega) ⟨rfl, rfl, rfl, rfl, trivial⟩ (fun w1 hw => hw)
   refine TQ.val rfl rfl rfl (gives_pick rfl rfl rfl) ?_
   refine TQ.fin ?_
   refine zT (zd (zk (zT (zSG (TL.as_ ?_)))))
   refine zET (zS (zSG (TL.as_ ?_)))
   refine zET (zB (TC.loop_ (α := {y : Nat × Nat // y.1 ≤ st16.length ∧ lostN x25.ttl p.at_ (st16.take y.1) = y.2 ∧ y.2 ≤ y.1}) (fun y => [(4, .pointer (some ⟨g4, 0, none⟩)), (5, .pointer (some ⟨g5, 0, none⟩)), (7, .slice (some ⟨g_R16, 0, none⟩) st16.length rc16), (8, .int .i64 ((i : Nat) : Int)), (10, .int .i64 ((y.1.1 : Nat) : Int)), (9, .int .i64 ((y.1.2 : Nat) : Int))]) (fun y => Pm w [.row (.slice (some ⟨g_R16, 0, none⟩) st16.length rc16) 65 17 st16.length (flat Rs.cells st16), .blk g5 34 p.cells, .blk g4 28 u.cells]) (fun y => st16.length - y.1.1) (⟨(0, 0), Nat.zero_le _, rfl, Nat.le_refl _⟩) ⟨rfl, rfl, rfl, rfl, rfl, rfl, trivial⟩ (fun w1 hw => hw) ?_))
   rintro ⟨⟨j, c⟩, hj, hc, hcj⟩
   dsimp only at hj hc hcj ⊢
   refine zS (zSG (TL.rn 2 rfl (TL.v (gN Tryz.underlying23) ?_)))
   refine TL.sp bin_lss (fun q42 => ?_) (fun q42 => ?_)
   ·refine zET (zc (zk (zT (zS (zB (zS (TC.quietQ (by kernel_rfl) (by kernel_rfl) (fun w hw => hw.drawn _) ?_)))))))
    refine TQ.rn 2 rfl ?_
    have hi47 : j < st16.length := by omega
    obtain ⟨x47, hx47⟩ := ex_at hi47
    refine TQ.val rfl rfl rfl (gA (i := j) Tryz.underlying23 prssz65 rfl rfl rfl rfl rfl (by omega)) ?_
    refine TQ.v (gF prsfld65_8) ?_
    refine TQ.vsplit rfl rfl rfl (gives_load (v := .bool x47.ans) rfl rfl prsag4 (fun w1 hw => flat_row rs_cel hw (q := 0) rfl hx47 8 _ rfl)) (fun h49 => ?_) (fun h49 => ?_)
    ·refine TQ.rn 24 rfl ?_
     refine TQ.fin ?_
     refine zT (zd (zk (zN (zT (zG (TL.mv ?_))))))
     refine TL.v (gD ((j + 1 : Nat) : Int)) ?_
     refine TL.as_ ?_
     refine zE ?_
     exact TX.round (⟨(j + 1, c), by dsimp only; omega, lost_f hx47 (by simp [lostR, q42, h49]) hc, by dsimp only; omega⟩) (by show st16.length - (j + 1) < st16.length - j; omega) ⟨rfl, rfl, rfl, rfl, rfl, rfl, trivial⟩ (fun w1 hw => hw)
    refine TQ.rn 4 rfl ?_
    refine TQ.on rfl rfl rfl ?_
    refine TQ.val rfl rfl rfl (gA (i := j) Tryz.underlying23 prssz65 rfl rfl rfl rfl rfl (by omega)) ?_
    refine TQ.ov (gF prsfld65_7) ?_
    refine TQ.on rfl rfl rfl ?_
    refine TQ.val rfl rfl rfl (gives_load (v := .int .i64 x47.ttl) rfl rfl pcmag3 (fun w1 hw => flat_row rs_cel hw (q := 0) rfl hx47 7 _ rfl)) ?_
    refine TQ.rn 2 rfl ?_
    refine TQ.on rfl rfl rfl ?_
    refine TQ.val rfl rfl rfl (gA (i := i) Tryz.underlying23 prssz65 rfl rfl rfl rfl rfl (by omega)) ?_
    refine TQ.ov (gF prsfld65_7) ?_
    refine TQ.on rfl rfl rfl ?_
    refine TQ.val rfl rfl rfl (gives_load (v := .int .i64 x25.ttl) rfl rfl pcmag3 (fun w1 hw => flat_row rs_cel hw (q := 0) rfl hx25 7 _ rfl)) ?_
    refine TQ.on rfl rfl rfl ?_
    refine TQ.sp bin_geq (fun q62 => ?_) (fun q62 => ?_)
    ·refine TQ.rn 4 rfl ?_
     refine TQ.on rfl rfl rfl ?_
     refine TQ.val rfl rfl rfl (gA (i := j) Tryz.underlying23 prssz65 rfl rfl rfl rfl rfl (by omega)) ?_
     refine TQ.ov (gF prsfld65_3) ?_
     refine TQ.on rfl rfl rfl ?_
     refine TQ.val rfl rfl rfl (gives_load (v := .int .i64 x47.at_) rfl rfl pcmag3 (fun w1 hw => flat_row rs_cel hw (q := 0) rfl hx47 3 _ rfl)) ?_
     refine TQ.ov (gF arpfld34_4) ?_
     refine TQ.ov (gL 1 pcmag3) ?_
     refine TQ.on rfl rfl rfl ?_
     refine TQ.sp bin_geq (fun q72 => ?_) (fun q72 => ?_)
     ·refine TQ.val rfl rfl rfl (gives_pick rfl rfl rfl) ?_
      refine TQ.fin ?_
      refine zT (zc (zG (TL.mv ?_)))
      refine TL.v (gD ((c + 1 : Nat) : Int)) ?_
      refine TL.as_ ?_
      refine zE (zN (zT (zG (TL.mv ?_))))
      refine TL.v (gD ((j + 1 : Nat) : Int)) ?_
      refine TL.as_ ?_
      refine zE ?_
      exact TX.round (⟨(j + 1, c + 1), by dsimp only; omega, lost_t hx47 (by simp [lostR, q42, h49, q62, q72]) hc, by dsimp only; omega⟩) (by show st16.length - (j + 1) < st16.length - j; omega) ⟨rfl, rfl, rfl, rfl, rfl, rfl, trivial⟩ (fun w1 hw => hw)
     refine TQ.val rfl rfl rfl (gives_pick rfl rfl rfl) ?_
     refine TQ.fin ?_
     refine zT (zd (zk (zN (zT (zG (TL.mv ?_))))))
     refine TL.v (gD ((j + 1 : Nat) : Int)) ?_
     refine TL.as_ ?_
     refine zE ?_
     exact TX.round (⟨(j + 1, c), by dsimp only; omega, lost_f hx47 (by simp [lostR, q42, h49, q62, q72]) hc, by dsimp only; omega⟩) (by show st16.length - (j + 1) < st16.length - j; omega) ⟨rfl, rfl, rfl, rfl, rfl, rfl, trivial⟩ (fun w1 hw => hw)
    refine TQ.rn 11 rfl ?_
    refine TQ.fin ?_
    refine zT (zd (zk (zN (zT (zG (TL.mv ?_))))))
    refine TL.v (gD ((j + 1 : Nat) : Int)) ?_
    refine TL.as_ ?_
    refine zE ?_
    exact TX.round (⟨(j + 1, c), by dsimp only; omega, lost_f hx47 (by simp [lostR, q42, h49, q62]) hc, by dsimp only; omega⟩) (by show st16.length - (j + 1) < st16.length - j; omega) ⟨rfl, rfl, rfl, rfl, rfl, rfl, trivial⟩ (fun w1 hw => hw)
   refine zET (zd (zx (zX (zX (zM (zT (zS ?_)))))))
   have hc2 : lostN x25.ttl p.at_ st16 = c := by rw [List.take_of_length_le (by omega)] at hc; exact hc
   refine zG (TL.mv ?_)
   refine TL.v (gF arpfld28_0) ?_
   refine TL.v (gL 2 pcmag3) ?_
   refine TL.sp bin_geq (fun q79 => ?_) (fun q79 => ?_)
   ·refine zET (zc (zSG (TL.as_ ?_)))
    refine zET (zr (zRR (zR (zRR ?_))))
    have hit : BhP l u p := ⟨Decidable.not_not.1 q13, st16, hP16, bh_iff.2 ⟨x25, List.mem_of_getElem? hx25, h27, by omega, by rw [hc2]; omega⟩⟩
    exact ret_tmp Tryz.results30 rfl (fun w1 hw => ⟨⟨true, fun _ => hit, fun _ => rfl⟩, rfl, hw.bel⟩)
   refine zET (zd (zk (zN (zT (zG (TL.mv ?_))))))
   refine TL.v (gD ((i + 1 : Nat) : Int)) ?_
   refine TL.as_ ?_
   refine zE ?_
   exact TX.round (⟨i + 1, by omega, miss_snoc hmi hx25 (fun h => q79 (by have := h.2.2; rw [hc2] at this; omega))⟩) (by show st16.length - (i + 1) < st16.length - i; omega) ⟨rfl, rfl, rfl, rfl, trivial⟩ (fun w1 hw => hw)
  refine TQ.rn 11 rfl ?_
  refine TQ.fin ?_
  refine zT (zc (zx (zX (zM (zT (zG (TL.mv ?_)))))))
  refine TL.v (gD ((i + 1 : Nat) : Int)) ?_
  refine TL.as_ ?_
  refine zE ?_
  exact TX.round (⟨i + 1, by omega, miss_snoc hmi hx25 (fun h => by rw [h.1] at h27; cases h27)⟩) (by show st16.length - (i + 1) < st16.length - i; omega) ⟨rfl, rfl, rfl, rfl, trivial⟩ (fun w1 hw => hw)
 refine zET (zd (zx (zX (zX (zM (zT (zSG (TL.as_ ?_))))))))
 refine zET (zr ?_)
 have hno : ¬ BhP l u p := by
  rintro ⟨_, y0, h1, h2⟩
  rw [← hP16.eq h1, bh_iff] at h2
  obtain ⟨x0, h3, h4⟩ := h2
  rw [List.take_of_length_le (by omega)] at hmi
  exact hmi x0 h3 h4
 exact ret_tmp Tryz.results30 rfl (fun w1 hw => ⟨⟨false, fun h => (by cases h), fun h => absurd h hno⟩, rfl, hw.bel⟩)
set_option maxRecDepth 20000
def CgP (l : List Rs) (u : Ru) (p : Rp) : Prop := p.kind = 3 ∧ (u.prb < 1 ∨ ∃ y, IsSt l p.trc p.flow y ∧ CgF (eaL (atL y p.ttl) p.at_) (laL (atL y p.ttl) p.at_) u.prb u.gro)
theorem IsSt.in_ {l y : List Rs} {t : Trc} {flow : Int} (h : IsSt l t flow y) (ttl : Int) : ∀ r ∈ atL y ttl, r.inRange := fun r hr => by
 obtain ⟨x, h1, rfl⟩ := h
 have h2 := (List.mem_filter.1 (List.mem_filter.1 hr).1).2
 unfold usbRs at h2
 simp only [Bool.and_eq_true] at h2
 exact vld_in h2.1.2
theorem ac2fld34_0 (g o : Nat) (w : World) : (Instr.fieldAt 34 (.pointer (some ⟨g, o, none⟩)) 0).run Tryz.prog w = .ok (.pointer (some ⟨g, o + 0, none⟩)) w := by kernel_rfl
theorem ac2ag3 (w : World) : (isAgg 3).run Tryz.prog w = .ok false w := rfl
theorem ac2fld34_1 (g o : Nat) (w : World) : (Instr.fieldAt 34 (.pointer (some ⟨g, o, none⟩)) 1).run Tryz.prog w = .ok (.pointer (some ⟨g, o + 1, none⟩)) w := by kernel_rfl
theorem ac2ag32 (w : World) : (isAgg 32).run Tryz.prog w = .ok true w := rfl
theorem ac2sz32 (w : World) : (sizeOf 32).run Tryz.prog w = .ok 3 w := rfl
theorem ac2fld34_2 (g o : Nat) (w : World) : (Instr.fieldAt 34 (.pointer (some ⟨g, o, none⟩)) 2).run Tryz.prog w = .ok (.pointer (some ⟨g, o + 4, none⟩)) w := by kernel_rfl
theorem ac2fld34_3 (g o : Nat) (w : World) : (Instr.fieldAt 34 (.pointer (some ⟨g, o, none⟩)) 3).run Tryz.prog w = .ok (.pointer (some ⟨g, o + 5, none⟩)) w := by kernel_rfl
theorem ac2ag28 (w : World) : (isAgg 28).run Tryz.prog w = .ok true w := rfl
theorem ac2sz28 (w : World) : (sizeOf 28).run Tryz.prog w = .ok 3 w := rfl
theorem ac2fld34_4 (g o : Nat) (w : World) : (Instr.fieldAt 34 (.pointer (some ⟨g, o, none⟩)) 4).run Tryz.prog w = .ok (.pointer (some ⟨g, o + 6, none⟩)) w := by kernel_rfl
theorem ac2nm73 : (Tryz.f73.name == "runtime.NumGoroutine") = false := by decide
theorem ac2bd73 : Tryz.f73.body.isNone = false := rfl
theorem ac2nm77 : (Tryz.f77.name == "runtime.NumGoroutine") = false := by decide
theorem ac2bd77 : Tryz.f77.body.isNone = false := rfl
theorem ac2nm76 : (Tryz.f76.name == "runtime.NumGoroutine") = false := by decide
theorem ac2bd76 : Tryz.f76.body.isNone = false := rfl
theorem congestion_any (A0 : Option Addr) (c0 : Nat) (l : List Rs) (u : Ru) (p : Rp) (w : World) (hr : Reads w w.heap.size 17 A0 l.length (flat Rs.cells l)) (hl1 : l.length ≤ 100000) (hok : ∀ r ∈ l, r.Ok) :
  Calls Tryz.prog 31 #[.slice A0 l.length c0, .agg u.cells.toArray, .agg p.cells.toArray] w fun e w' => ∃ x : {b : Bool // b = true ↔ CgP l u p}, e = .returned (.bool x.1) ∧ Below w.heap.size w w' := by
 refine begin_ (vs := [.slice A0 l.length c0, .agg u.cells.toArray, .agg p.cells.toArray]) Tryz.func31 rfl rfl rfl ?_ (Pm.start w)
 refine zSG ?_
 refine TL.pnew rfl rfl rfl (exec_box (cs := u.cells) rfl rfl rfl) (fun g4 => ?_)
 refine TL.pnew rfl rfl rfl (exec_box (cs := p.cells) rfl rfl rfl) (fun g5 => ?_)
 refine TL.as_ ?_
 refine zET (zS ?_)
 by_cases hk : p.kind = 3
 ·refine TC.held (ls := #[Ff,Ff,Ff,Ff,Ff,Ff,Ff,Ff,Ff,Ff,Ff,Ff,Ff,Ff,Ff,Ff,Ff,Ff,Ff]) (Pm w [.blk g5 34 p.cells, .blk g4 28 u.cells]) (by kernel_rfl) rfl rfl (fun w hw => hw.drawn _) ?_
  refine TH.tk 0 rfl rfl rfl (gF ac2fld34_0) (fun w1 hw => hw) ?_
  refine TH.tk 1 rfl rfl rfl (gL 0 ac2ag3) (fun w1 hw => hw) ?_
  refine TH.tk 2 rfl rfl rfl (gives_bin rfl rfl rfl (fun w => bin_eql_t (hk) w)) (fun w1 hw => hw) ?_
  refine TH.tk 3 rfl rfl rfl (gives_move rfl rfl) (fun w1 hw => hw) ?_
  refine TH.takeG 4 rfl (by kernel_rfl) (by kernel_rfl) (by kernel_rfl) rfl rfl rfl rfl rfl rfl (gives_move rfl rfl) (fun w1 hw => hw) ?_
  refine TH.takeG 5 rfl (by kernel_rfl) (by kernel_rfl) (by kernel_rfl) rfl rfl rfl rfl rfl rfl (gF ac2fld34_1) (fun w1 hw => hw) ?_
  refine TH.takeG 6 rfl (by kernel_rfl) (by kernel_rfl) (by kernel_rfl) rfl rfl rfl rfl rfl rfl (gV 0 (.agg #[.int .i64 p.v, .int .u32 p.dst, .int .i64 p.proto]) ac2ag32 ac2sz32) (fun w1 hw => hw) ?_
  refine TH.takeG 7 rfl (by kernel_rfl) (by kernel_rfl) (by kernel_rfl) rfl rfl rfl rfl rfl rfl (gF ac2fld34_2) (fun w1 hw => hw) ?_
  refine TH.takeG 8 rfl (by kernel_rfl) (by kernel_rfl) (by kernel_rfl) rfl rfl rfl rfl rfl rfl (gL 0 ac2ag3) (fun w1 hw => hw) ?_
  refine TH.takeG 10 rfl (by kernel_rfl) (by kernel_rfl) (by kernel_rfl) rfl rfl rfl rfl rfl rfl (gF ac2fld34_3) (fun w1 hw => hw) ?_
  refine TH.takeG 11 rfl (by kernel_rfl) (by kernel_rfl) (by kernel_rfl) rfl rfl rfl rfl rfl rfl (gL 0 ac2ag3) (fun w1 hw => hw) ?_
  refine TH.takeG 13 rfl (by kernel_rfl) (by kernel_rfl) (by kernel_rfl) rfl rfl rfl rfl rfl rfl (gV 1 (.agg (u.cells).toArray) ac2ag28 ac2sz28) (fun w1 hw => hw) ?_
  refine TH.takeG 14 rfl (by kernel_rfl) (by kernel_rfl) (by kernel_rfl) rfl rfl rfl rfl rfl rfl (gF ac2fld34_4) (fun w1 hw => hw) ?_
  refine TH.takeG 15 rfl (by kernel_rfl) (by kernel_rfl) (by kernel_rfl) rfl rfl rfl rfl rfl rfl (gL 0 ac2ag3) (fun w1 hw => hw) ?_
  refine TH.only' 9 rfl (by kernel_rfl) rfl ?_
  refine TL.gu ?_
  refine TL.pcallPm (α := {y : (Option Addr × Nat) × List Rs // IsSt l p.trc p.flow y.2 ∧ y.2.length ≤ y.1.2 ∧ y.1.2 ≤ maxLen}) (fun x => .slice x.1.1.1 x.1.2.length x.1.1.2) (fun x => [.row (.slice x.1.1.1 x.1.2.length x.1.1.2) 65 17 x.1.2.length (flat Rs.cells x.1.2)]) rfl rfl rfl rfl rfl Tryz.func73 ac2nm73 ac2bd73 (fun w1 hw => stream_any A0 c0 l p.trc p.flow w1 (hr.up hw.bel) hl1 hok) ?_
  rintro ⟨⟨⟨R16, rc16⟩, st16⟩, hP16, hR161, hR162⟩
  dsimp only [List.cons_append, List.nil_append]
  dsimp only at hP16 hR161 hR162 ⊢
  refine zE ?_
  refine TX.held (fun w1 hw => hw.pick [1, 2] (by decide) rfl) ?_
  refine TH.only' 12 rfl (by kernel_rfl) rfl ?_
  refine TL.gu ?_
  refine TL.pcallPm (α := {y : (Option Addr × Nat) × List Rs // y.2 = atL st16 p.ttl ∧ y.2.length ≤ y.1.2 ∧ y.1.2 ≤ maxLen}) (fun x => .slice x.1.1.1 x.1.2.length x.1.1.2) (fun x => [.row (.slice x.1.1.1 x.1.2.length x.1.1.2) 65 17 x.1.2.length (flat Rs.cells x.1.2)]) rfl rfl rfl rfl rfl Tryz.func77 ac2nm77 ac2bd77 (fun w1 hw => atl_any R16 rc16 st16 p.ttl w1 (pm_rd hw (k := 0) rfl) (by have := hP16.le; omega)) ?_
  rintro ⟨⟨⟨R19, rc19⟩, at19⟩, hP19, hR191, hR192⟩
  dsimp only [List.cons_append, List.nil_append]
  dsimp only at hP19 hR191 hR192 ⊢
  refine zE ?_
  refine TX.held (fun w1 hw => hw.pick [2, 3] (by decide) rfl) ?_
  refine TH.only' 16 rfl (by kernel_rfl) rfl ?_
  refine TL.gu ?_
  refine TL.pcallPm (α := {b : Bool // b = true ↔ u.prb < 1 ∨ CgF (eaL at19 p.at_) (laL at19 p.at_) u.prb u.gro}) (fun x => .bool x.1) (fun x => []) rfl rfl rfl rfl rfl Tryz.func76 ac2nm76 ac2bd76 (fun w1 hw => (congestion_l R19 rc19 at19 u p.at_ w1 (pm_rd hw (k := 0) rfl) (by have := hP16.le; have := List.length_filter_le (fun r : Rs => r.ans && decide (r.ttl = p.ttl)) st16; rw [hP19]; unfold atL; omega) (by rw [hP19]; exact hP16.in_ p.ttl)).mono fun en w2 ⟨x, h1, h2⟩ => ⟨x, h1, (Pm.start w1).below h2⟩) ?_
  rintro ⟨bd, hbd⟩
  dsimp only [List.cons_append, List.nil_append]
  refine zE ?_
  refine TX.he (fun w1 hw => hw.pick [2, 3] (by decide) rfl) fun hS => ?_
  refine TH.t 17 rfl (gives_pick rfl rfl rfl) hS ?_
  refine TH.t 18 rfl (gives_assign rfl rfl) hS ?_
  refine TH.done (by kernel_rfl) ?_
  refine zT (zr ?_)
  exact ret_tmp Tryz.results31 rfl (fun w1 hw => ⟨⟨bd, hbd.trans ⟨fun h => ⟨hk, h.imp id fun h => ⟨st16, hP16, by rw [← hP19]; exact h⟩⟩, fun ⟨_, h⟩ => h.imp id fun ⟨y, h1, h2⟩ => by rw [hP19, hP16.eq h1]; exact h2⟩⟩, rfl, hw.bel⟩)
 refine TC.held (ls := #[Ff,Ff,Ff,Ff,Ff,Ff,Ff,Ff,Ff,Ff,Ff,Ff,Ff,Ff,Ff,Ff,Ff,Ff,Ff]) (Pm w [.blk g5 34 p.cells, .blk g4 28 u.cells]) (by kernel_rfl) rfl rfl (fun w hw => hw.drawn _) ?_
 refine TH.tk 0 rfl rfl rfl (gF ac2fld34_0) (fun w1 hw => hw) ?_
 refine TH.tk 1 rfl rfl rfl (gL 0 ac2ag3) (fun w1 hw => hw) ?_
 refine TH.tk 2 rfl rfl rfl (gives_bin rfl rfl rfl (fun w => bin_eql_f (hk) w)) (fun w1 hw => hw) ?_
 refine TH.tk 3 rfl rfl rfl (gives_move rfl rfl) (fun w1 hw => hw) ?_
 refine TH.off 4 rfl (by kernel_rfl) (by kernel_rfl) (by kernel_rfl) rfl rfl rfl rfl rfl rfl rfl (fun w1 hw => hw) ?_
 refine TH.off 5 rfl (by kernel_rfl) (by kernel_rfl) (by kernel_rfl) rfl rfl rfl rfl rfl rfl rfl (fun w1 hw => hw) ?_
 refine TH.off 6 rfl (by kernel_rfl) (by kernel_rfl) (by kernel_rfl) rfl rfl rfl rfl rfl rfl rfl (fun w1 hw => hw) ?_
 refine TH.off 7 rfl (by kernel_rfl) (by kernel_rfl) (by kernel_rfl) rfl rfl rfl rfl rfl rfl rfl (fun w1 hw => hw) ?_
 refine TH.off 8 rfl (by kernel_rfl) (by kernel_rfl) (by kernel_rfl) rfl rfl rfl rfl rfl rfl rfl (fun w1 hw => hw) ?_
 refine TH.off 9 rfl (by kernel_rfl) (by kernel_rfl) (by kernel_rfl) rfl rfl rfl rfl rfl rfl rfl (fun w1 hw => hw) ?_
 refine TH.off 10 rfl (by kernel_rfl) (by kernel_rfl) (by kernel_rfl) rfl rfl rfl rfl rfl rfl rfl (fun w1 hw => hw) ?_
 refine TH.off 11 rfl (by kernel_rfl) (by kernel_rfl) (by kernel_rfl) rfl rfl rfl rfl rfl rfl rfl (fun w1 hw => hw) ?_
 refine TH.off 12 rfl (by kernel_rfl) (by kernel_rfl) (by kernel_rfl) rfl rfl rfl rfl rfl rfl rfl (fun w1 hw => hw) ?_
 refine TH.off 13 rfl (by kernel_rfl) (by kernel_rfl) (by kernel_rfl) rfl rfl rfl rfl rfl rfl rfl (fun w1 hw => hw) ?_
 refine TH.off 14 rfl (by kernel_rfl) (by kernel_rfl) (by kernel_rfl) rfl rfl rfl rfl rfl rfl rfl (fun w1 hw => hw) ?_
 refine TH.off 15 rfl (by kernel_rfl) (by kernel_rfl) (by kernel_rfl) rfl rfl rfl rfl rfl rfl rfl (fun w1 hw => hw) ?_
 refine TH.off 16 rfl (by kernel_rfl) (by kernel_rfl) (by kernel_rfl) rfl rfl rfl rfl rfl rfl rfl (fun w1 hw => hw) ?_
 refine TH.tk 17 rfl rfl rfl (gives_pick rfl rfl rfl) (fun w1 hw => hw) ?_
 refine TH.tk 18 rfl rfl rfl (gives_assign rfl rfl) (fun w1 hw => hw) ?_
 refine TH.done (by kernel_rfl) ?_
 refine zT (zr ?_)
 exact ret_tmp Tryz.results31 rfl (fun w1 hw => ⟨⟨false, by simp [CgP, hk]⟩, rfl, hw.bel⟩)
set_option maxRecDepth 20000
def PrP (es : List En) (l : List Rs) (u : Ru) (p : Rp) : Prop := vldRu u = true ∧ vldRp p = true ∧ validR es = true ∧ (BhP l u p ∨ DtP es l p ∨ CgP l u p)
theorem PrP.kinds {es : List En} {l : List Rs} {u : Ru} {p : Rp} (h : vldRp p = true) : p.kind = 1 ∨ p.kind = 2 ∨ p.kind = 3 := by
 unfold vldRp at h
 simp only [Bool.and_eq_true, decide_eq_true_eq] at h
 omega
theorem aprag28 (w : World) : (isAgg 28).run Tryz.prog w = .ok true w := rfl
theorem aprsz28 (w : World) : (sizeOf 28).run Tryz.prog w = .ok 3 w := rfl
theorem proves_any (A0 : Option Addr) (c0 : Nat) (l : List Rs) (A1 : Option Addr) (c1 : Nat) (es : List En) (u : Ru) (p : Rp) (w : World) (hr : Reads w w.heap.size 17 A0 l.length (flat Rs.cells l)) (hl1 : l.length ≤ 100000) (hok : ∀ r ∈ l, r.Ok) (hr1 : Reads w w.heap.size 5 A1 es.length (flat En.cells es)) :
  Calls Tryz.prog 37 #[.slice A0 l.length c0, .agg #[.slice A1 es.length c1], .agg u.cells.toArray, .agg p.cells.toArray] w fun e w' => ∃ x : {b : Bool // b = true ↔ PrP es l u p}, e = .returned (.bool x.1) ∧ Below w.heap.size w w' := by
 refine begin_ (vs := [.slice A0 l.length c0, .agg #[.slice A1 es.length c1], .agg u.cells.toArray, .agg p.cells.toArray]) Tryz.func37 rfl rfl rfl ?_ (Pm.start w)
 refine zSG ?_
 refine TL.pnew rfl rfl rfl (exec_box (cs := [.slice A1 es.length c1]) rfl rfl rfl) (fun g5 => ?_)
 refine TL.pnew rfl rfl rfl (exec_box (cs := u.cells) rfl rfl rfl) (fun g6 => ?_)
 refine TL.pnew rfl rfl rfl (exec_box (cs := p.cells) rfl rfl rfl) (fun g7 => ?_)
 refine TL.as_ ?_
 refine zET (zS (zSG (TL.v (gV 1 (.agg (u.cells).toArray) aprag28 aprsz28) ?_)))
 refine TL.callsplit rfl rfl rfl rfl rfl Tryz.func24 (by decide) rfl (fun w1 hw => vldRu_any u w1) (fun h10 => ?_) (fun h10 => ?_)
 ·refine TL.rn 2 rfl (TL.ov (gV 0 (.agg (p.cells).toArray) abrag34 abrsz34) ?_)
  refine TL.gu ?_
  refine TL.callsplit rfl rfl rfl rfl rfl Tryz.func27 (by decide) rfl (fun w1 hw => vldRp_any p w1) (fun h14 => ?_) (fun h14 => ?_)
  ·refine TL.rn 3 rfl (TL.ov (gV 2 (.agg #[.slice A1 es.length c1]) breag26 bresz26) ?_)
   refine TL.gu ?_
   refine TL.callsplit rfl rfl rfl rfl rfl Tryz.func84 (by decide) rfl (fun w1 hw => validR_any A1 c1 es w1 (hr1.up hw.bel)) (fun h19 => ?_) (fun h19 => ?_)
   ·refine TL.rn 2 rfl (zET (zd (zk (zT (zS (zSG (TL.v (gF arpfld34_0) ?_)))))))
    refine TL.v (gL 0 pcmag3) ?_
    refine zET (zB (zSG ?_))
    refine TL.sp bin_eql (fun q25 => ?_) (fun q25 => ?_)
    ·refine TL.as_ ?_
     refine zET (zc (zSG (TL.mv ?_)))
     refine TL.v (gV 1 (.agg (u.cells).toArray) aprag28 aprsz28) ?_
     refine TL.v (gV 0 (.agg (p.cells).toArray) abrag34 abrsz34) ?_
     refine TL.pcallPm (α := {b : Bool // b = true ↔ BhP l u p}) (fun x => .bool x.1) (fun x => []) rfl rfl rfl rfl rfl Tryz.func29 (by decide) rfl (fun w1 hw => (blackhole_any A0 c0 l u p w1 (hr.up hw.bel) hl1 hok).mono fun en w2 ⟨x, h1, h2⟩ => ⟨x, h1, (Pm.start w1).below h2⟩) ?_
     rintro ⟨bd, hbd⟩
     dsimp only [List.cons_append, List.nil_append]
     refine TL.as_ ?_
     refine zET (zr (zRR ?_))
     exact ret_tmp Tryz.results37 rfl (fun w1 hw => ⟨⟨bd, fun h => ⟨h10, h14, h19, .inl (hbd.1 h)⟩, fun ⟨_, _, _, h4⟩ => hbd.2 (h4.elim id fun h5 => h5.elim (fun h6 => absurd h6.1 (by omega)) fun h6 => absurd h6.1 (by omega))⟩, rfl, hw.bel⟩)
    refine TL.as_ ?_
    refine zET (zd (zSG ?_))
    refine TL.sp bin_eql (fun q31 => ?_) (fun q31 => ?_)
    ·refine TL.as_ ?_
     refine zET (zc (zSG (TL.mv ?_)))
     refine TL.v (gV 2 (.agg #[.slice A1 es.length c1]) breag26 bresz26) ?_
     refine TL.v (gV 0 (.agg (p.cells).toArray) abrag34 abrsz34) ?_
     refine TL.pcallPm (α := {b : Bool // b = true ↔ DtP es l p}) (fun x => .bool x.1) (fun x => []) rfl rfl rfl rfl rfl Tryz.func35 (by decide) rfl (fun w1 hw => (detour_any A0 c0 l A1 c1 es p w1 (hr.up hw.bel) hl1 hok (hr1.up hw.bel)).mono fun en w2 ⟨x, h1, h2⟩ => ⟨x, h1, (Pm.start w1).below h2⟩) ?_
     rintro ⟨bd, hbd⟩
     dsimp only [List.cons_append, List.nil_append]
     refine TL.as_ ?_
     refine zET (zr (zRR ?_))
     exact ret_tmp Tryz.results37 rfl (fun w1 hw => ⟨⟨bd, fun h => ⟨h10, h14, h19, .inr (.inl (hbd.1 h))⟩, fun ⟨_, _, _, h4⟩ => hbd.2 (h4.elim (fun h6 => absurd h6.1 (by omega)) fun h5 => h5.elim id fun h6 => absurd h6.1 (by omega))⟩, rfl, hw.bel⟩)
    refine TL.as_ ?_
    refine zET (zd (zk (zN (zT (zSG (TL.mv ?_))))))
    refine TL.v (gV 1 (.agg (u.cells).toArray) aprag28 aprsz28) ?_
    refine TL.v (gV 0 (.agg (p.cells).toArray) abrag34 abrsz34) ?_
    refine TL.pcallPm (α := {b : Bool // b = true ↔ CgP l u p}) (fun x => .bool x.1) (fun x => []) rfl rfl rfl rfl rfl Tryz.func31 (by decide) rfl (fun w1 hw => (congestion_any A0 c0 l u p w1 (hr.up hw.bel) hl1 hok).mono fun en w2 ⟨x, h1, h2⟩ => ⟨x, h1, (Pm.start w1).below h2⟩) ?_
    rintro ⟨bd, hbd⟩
    dsimp only [List.cons_append, List.nil_append]
    refine TL.as_ ?_
    refine zET (zr ?_)
    exact ret_tmp Tryz.results37 rfl (fun w1 hw => ⟨⟨bd, fun h => ⟨h10, h14, h19, .inr (.inr (hbd.1 h))⟩, fun ⟨_, _, _, h4⟩ => hbd.2 (h4.elim (fun h6 => absurd h6.1 (by omega)) fun h5 => h5.elim (fun h6 => absurd h6.1 (by omega)) id)⟩, rfl, hw.bel⟩)
   refine TL.rn 2 rfl (zET (zc (zSG (TL.as_ ?_))))
   refine zET (zr (zR ?_))
   exact ret_tmp Tryz.results37 rfl (fun w1 hw => ⟨⟨false, fun h => (by cases h), fun h => (by have h2 := h.2.2.1; rw [h19] at h2; cases h2)⟩, rfl, hw.bel⟩)
  refine TL.rn 7 rfl (zET (zc (zSG (TL.as_ ?_))))
  refine zET (zr (zR ?_))
  exact ret_tmp Tryz.results37 rfl (fun w1 hw => ⟨⟨false, fun h => (by cases h), fun h => (by have h2 := h.2.1; rw [h14] at h2; cases h2)⟩, rfl, hw.bel⟩)
 refine TL.rn 11 rfl (zET (zc (zSG (TL.as_ ?_))))
 refine zET (zr (zR ?_))
 exact ret_tmp Tryz.results37 rfl (fun w1 hw => ⟨⟨false, fun h => (by cases h), fun h => (by have h2 := h.1; rw [h10] at h2; cases h2)⟩, rfl, hw.bel⟩)
set_option maxRecDepth 20000
theorem cod_stab (cb : Nat) : Stab cb (fun w => Cod w cb) := fun w1 w2 h hs => h.keep fun b hb => hs b (by omega)
theorem cod_cells {w : World} {cb : Nat} (h : Cod w cb) : CellsAt w cb := by
 obtain ⟨A, m, c, l, k, hb, _⟩ := h
 exact ⟨_, hb, rfl⟩
theorem next_cod (cb : Nat) (w : World) (n : Int) (h : Cod w cb) :
  Calls Tryz.prog 21 #[.pointer (some ⟨cb, 0, none⟩), .int .i64 n] w fun e w' => ∃ x : {x : Nat // x ≤ 65535 ∧ (1 ≤ n → (x : Int) < n)}, e = .returned (.int .i64 (x.1 : Int)) ∧ Codr (fun w => Cod w cb) cb w [] w' :=
 (next_any cb w n h).mono fun e w' ⟨x, he, h0, h1, h2, hc, hg, _⟩ => by
  obtain ⟨k, rfl⟩ := Int.eq_ofNat_of_zero_le h0
  exact ⟨⟨k, by omega, h2⟩, he, hc, hg, cod_cells hc, (fun q hq => absurd hq List.not_mem_nil), List.Pairwise.nil⟩
theorem grown_cell {w w1 : World} {cb : Nat} {p : Addr} (hg : w.grownBy w1 (some cb)) (hp : p.block ≠ cb) (hl : p.block < w.heap.size) : w1.cell? p = w.cell? p :=
 World.cell?_of_block (hg.block _ hl fun e => hp (by injection e))
theorem flat_row1 {w0 : Base} {L : List Pc} {w : World} {q g n cc i : Nat} {e : TypeId} {k : IntKind} {l : List Int} {x : Int} (h : Pm w0 L w) (hk : L[q]? = some (.row (.slice (some ⟨g, 0, none⟩) n cc) e 1 n (flat (ic k) l))) (hx : l[i]? = some x) : w.cell? ⟨g, i, none⟩ = some (.int k x) := by
 have := flat_row (ic_cel k) h hk hx 0 _ rfl
 rwa [show 0 + i * 1 + 0 = i by omega] at this
theorem roll_any (A : Option Addr) (n c : Nat) (l : List Int) (w : World) (hb : Byt w w.heap.size A n l) (hc : n ≤ c) (hn : (n : Int) ≤ 9223372036854775807) : Calls Tryz.prog 16 #[.slice A n c] w fun e w' => e = .returned (.pointer (some ⟨w.heap.size, 0, none⟩)) ∧ Cod w' w.heap.size ∧ Below w.heap.size w w' := by
 refine begin_ (vs := [.slice A n c]) (I := fun w1 => w1 = w) Tryz.func16 rfl rfl rfl ?_ rfl
 refine zSG (TL.as_ ?_)
 refine zET (zSG (TL.mv ?_))
 refine TL.call (α := Unit) (r := fun _ => .pointer (some ⟨w.heap.size, 0, none⟩)) (I' := fun _ w2 => Cod w2 w.heap.size ∧ Below w.heap.size w w2) rfl rfl rfl rfl rfl Tryz.func62 (by decide) rfl (fun w1 hw => by cases hw; exact (new_any A n c l w 400 hb hc (by omega) (by decide) (by decide)).mono fun e w2 ⟨h1, h2, h3, _⟩ => ⟨(), h1, h2, h3⟩) (fun _ => ?_)
 refine TL.as_ ?_
 refine zET (zr ?_)
 exact ret_tmp Tryz.results16 rfl (fun w1 hw => ⟨rfl, hw.1, hw.2⟩)
theorem pick_cod (cb : Nat) (w : World) (hC : Cod w cb) (g c : Nat) (tab : List Int) (hgc : g ≠ cb) (hgl : g < w.heap.size) (h0 : 0 < tab.length) (hcell : ∀ (i : Nat) (v : Int), tab[i]? = some v → w.cell? ⟨g, i, none⟩ = some (.int .i64 v)) :
  Calls Tryz.prog 22 #[.pointer (some ⟨cb, 0, none⟩), .slice (some ⟨g, 0, none⟩) tab.length c] w fun e w' => ∃ x : {v : Int // v ∈ tab}, e = .returned (.int .i64 x.1) ∧ Codr (fun w => Cod w cb) cb w ([]) w' := by
 refine begin_ (vs := [.pointer (some ⟨cb, 0, none⟩), .slice (some ⟨g, 0, none⟩) tab.length c]) (I := Pm ⟨w, cb⟩ (.abs cb (fun w => Cod w cb) :: oths cb w)) Tryz.func22 rfl rfl rfl ?_ (Pm.codes hC (cod_cells hC) (cod_stab cb))
 refine zSG (TL.as_ ?_)
 refine zET (zSG (TL.rn 3 rfl (TL.v (gN Tryz.underlying106) ?_)))
 refine TL.pcallCod (k := 0) (α := {q9 : Nat // q9 ≤ 65535 ∧ (1 ≤ ((tab.length : Nat) : Int) → (q9 : Int) < (tab.length : Nat))}) (fun q9 => .int .i64 ((q9.1 : Nat) : Int)) (fun q9 => []) rfl rfl rfl rfl rfl Tryz.func21 (by decide) rfl rfl (fun w1 hw hC1 => next_cod cb w1 (tab.length : Nat) hC1) ?_
 rintro ⟨x, hx1, hx2⟩
 dsimp only [List.cons_append, List.nil_append]
 refine TL.val rfl rfl rfl (gives_at (v := .pointer (some ⟨g, x, none⟩)) rfl rfl rfl (fun w => at_row Tryz.underlying106 pcmsz3 g _ _ x (by omega) rfl w)) ?_
 obtain ⟨v, hv, hvt⟩ : ∃ v, tab[x]? = some v ∧ v ∈ tab := ⟨_, List.getElem?_eq_getElem (by omega), List.getElem_mem _⟩
 refine TL.val rfl rfl rfl (gives_load (v := .int .i64 v) rfl rfl pcmag3 (fun w1 hw => (grown_cell (hw.kept (fun q hq => by simp [hq])) (by show g ≠ cb; exact hgc) (by show g < _; exact hgl)).trans (hcell x v hv))) ?_
 refine TL.as_ ?_
 refine zET (zr ?_)
 exact ret_tmp Tryz.results22 rfl (fun w1 hw => ⟨⟨v, hvt⟩, rfl, Pm.codr [] (hw) rfl⟩)
theorem daddr_cod (cb : Nat) (w : World) (hC : Cod w cb) :
  Calls Tryz.prog 67 #[.pointer (some ⟨cb, 0, none⟩)] w fun e w' => ∃ x : {a : Int // 167772161 ≤ a ∧ a ≤ 167772173}, e = .returned (.int .u32 x.1) ∧ Codr (fun w => Cod w cb) cb w ([]) w' := by
 refine begin_ (vs := [.pointer (some ⟨cb, 0, none⟩)]) (I := Pm ⟨w, cb⟩ (.abs cb (fun w => Cod w cb) :: oths cb w)) Tryz.func67 rfl rfl rfl ?_ (Pm.codes hC (cod_cells hC) (cod_stab cb))
 refine zSG (TL.as_ ?_)
 refine zET (zSG (TL.mv ?_))
 refine TL.prowS (e := 3) (size := 1) (cs := flat (ic .i64) [1, 2, 5, 6, 9, 10, 12, 13]) rfl rfl rfl rfl rfl (fun w => arpbs106_8_10220 _ _ _ _ _ _ _ _ w) (by decide) rfl (fun g4 => ?_)
 refine TL.pcallCod (k := 1) (α := {v : Int // v ∈ ([1, 2, 5, 6, 9, 10, 12, 13] : List Int)}) (fun x => .int .i64 x.1) (fun x => []) rfl rfl rfl rfl rfl Tryz.func22 (by decide) rfl rfl (fun w1 hw hC1 => pick_cod cb w1 hC1 g4 8 ([1, 2, 5, 6, 9, 10, 12, 13]) (hw.neq (i := 0) (j := 1) rfl rfl (by decide) g4 rfl <| congrArg some ·.symm) (Pc.lt (hw.at_ (k := 0) rfl) g4 rfl).2 (by show 0 < ([1, 2, 5, 6, 9, 10, 12, 13] : List Int).length; simp) (fun i v hi => flat_row1 hw (q := 0) rfl hi)) ?_
 rintro ⟨v, hv⟩
 dsimp only [List.cons_append, List.nil_append]
 have hvb : 1 ≤ v ∧ v ≤ 13 := by simp only [List.mem_cons, List.not_mem_nil, or_false] at hv; omega
 refine TL.v (gD (167772160 + v)) ?_
 refine TL.val rfl rfl rfl (gives_conv rfl rfl (fun w => conv_fit (k := .i64) Tryz.underlying30 Tryz.underlying3 (by simp only [IntKind.wrap_u32]; omega) w)) ?_
 refine TL.as_ ?_
 refine zET (zr ?_)
 exact ret_tmp Tryz.results67 rfl (fun w1 hw => ⟨⟨167772160 + v, by omega⟩, rfl, Pm.codr [] (hw.sel (.cons _ (.cons_cons _ (List.Sublist.refl _)))) rfl⟩)
theorem dbool_cod (cb : Nat) (w : World) (hC : Cod w cb) (n : Nat) (hn : n ≤ 1000) :
  Calls Tryz.prog 18 #[.pointer (some ⟨cb, 0, none⟩), .int .i64 ((n : Nat) : Int)] w fun e w' => ∃ x : Bool, e = .returned (.bool x) ∧ Codr (fun w => Cod w cb) cb w ([]) w' := by
 refine begin_ (vs := [.pointer (some ⟨cb, 0, none⟩), .int .i64 ((n : Nat) : Int)]) (I := Pm ⟨w, cb⟩ (.abs cb (fun w => Cod w cb) :: oths cb w)) Tryz.func18 rfl rfl rfl ?_ (Pm.codes hC (cod_cells hC) (cod_stab cb))
 refine zSG (TL.as_ ?_)
 refine zET (zSG (TL.rn 2 rfl ?_))
 refine TL.pcallCod (k := 0) (α := {q9 : Nat // q9 ≤ 65535 ∧ (1 ≤ (((n : Nat) : Int) : Int) → (q9 : Int) < ((n : Nat) : Int))}) (fun q9 => .int .i64 ((q9.1 : Nat) : Int)) (fun q9 => []) rfl rfl rfl rfl rfl Tryz.func21 (by decide) rfl rfl (fun w1 hw hC1 => next_cod cb w1 ((n : Nat) : Int) hC1) ?_
 rintro ⟨x, hx1, hx2⟩
 dsimp only [List.cons_append, List.nil_append]
 refine TL.mv ?_
 refine TL.val rfl rfl rfl (gives_bin rfl rfl rfl (fun w => bin_sub_ (r := (n : Int) - 1) (by simp only [IntKind.wrap_i64]; omega) w)) ?_
 refine TL.val rfl rfl rfl (gives_bin rfl rfl rfl (fun w => bin_eql w)) ?_
 refine TL.as_ ?_
 refine zET (zr ?_)
 exact ret_tmp Tryz.results18 rfl (fun w1 hw => ⟨decide (((x : Nat) : Int) = (n : Int) - 1), rfl, Pm.codr [] (hw) rfl⟩)
set_option maxRecDepth 20000
def TrOk (t : Trc) : Prop := (0 ≤ t.v ∧ t.v ≤ 1) ∧ (167774464 ≤ t.dst ∧ t.dst ≤ 167774466) ∧ (t.proto = 17 ∨ t.proto = 1 ∨ t.proto = 6)
structure Nt where
 v : Int
 dst : Int
 proto : Int
 ps : Sg (Sg Int)
 last : Int
def Nt.cells (n : Nt) : List Value := [.int .i64 n.v, .int .u32 n.dst, .int .i64 n.proto, .slice n.ps.A n.ps.l.length n.ps.c, .int .u32 n.last]
theorem nt_cel : Cel Nt.cells 5 := ⟨fun _ => rfl, fun r u hu => by
 simp only [Nt.cells, List.mem_cons, List.not_mem_nil, or_false] at hu
 rcases hu with rfl | rfl | rfl | rfl | rfl <;> rfl⟩
def PathW (n : Nat) (l : List Int) : Prop := l.length = n ∧ ∀ a ∈ l, 0 ≤ a ∧ a ≤ 167772173
def NtOk (n : Nt) : Prop := TrOk ⟨n.v, n.dst, n.proto⟩ ∧ (1 ≤ n.last ∧ n.last ≤ 167774466) ∧ ∃ lg, 1 ≤ lg ∧ lg ≤ 3 ∧ 1 ≤ n.ps.l.length ∧ n.ps.l.length ≤ 3 ∧ ∀ s ∈ n.ps.l, PathW lg s.l
theorem ad_snoc {p : List Int} {x : Int} (h : ∀ a ∈ p, 0 ≤ a ∧ a ≤ 167772173) (hx : 0 ≤ x ∧ x ≤ 167772173) : ∀ a ∈ p ++ [x], 0 ≤ a ∧ a ≤ 167772173 := fun a ha => by
 rcases List.mem_append.1 ha with ha | ha
 ·exact h a ha
 rw [List.mem_singleton.1 ha]; exact hx
theorem pw_snoc {pp : List (Sg Int)} {s : Sg Int} {n : Nat} (h : ∀ s ∈ pp, PathW n s.l) (hs : PathW n s.l) : ∀ x ∈ pp ++ [s], PathW n x.l := fun a ha => by
 rcases List.mem_append.1 ha with ha | ha
 ·exact h a ha
 rw [List.mem_singleton.1 ha]; exact hs
def netP (p : Sg (Sg Int)) : List Pc := .row (.slice p.A p.l.length p.c) 96 1 p.l.length (flat sgc p.l) :: segG 30 1 (flat (ic .u32)) p.l
theorem netP_noAbs (p : Sg (Sg Int)) : noAbs (netP p) = true := by
 have h := segG_noAbs (e := 30) (size := 1) (enc := flat (ic .u32)) p.l
 simp only [noAbs, netP, List.all_cons, Bool.and_eq_true] at h ⊢
 exact ⟨rfl, h⟩
section
variable {w0 : Base} {w : World} {α : Type} {e : TypeId} {size : Nat} {enc : List α → List Value} {L P O : List Pc} {ss : List (Sg α)} {s : Sg α}
theorem Pm.tuckEnd (h : Pm w0 (.row (.slice s.A s.l.length s.c) e size s.l.length (enc s.l) :: (P ++ (segG e size enc ss ++ O))) w) : Pm w0 (P ++ (segG e size enc (ss ++ [s]) ++ O)) w := by
 refine h.permute ?_
 have h1 : segG e size enc (ss ++ [s]) = segG e size enc ss ++ [.row (.slice s.A s.l.length s.c) e size s.l.length (enc s.l)] := List.map_append
 rw [h1, List.append_assoc]
 refine List.perm_middle.symm.trans (List.Perm.append_left P ?_)
 exact List.perm_middle.symm
theorem Pm.netOut {p : Sg (Sg Int)} {a : Pc} (h : Pm w0 (.row (.slice p.A p.l.length p.c) 96 1 p.l.length (flat sgc p.l) :: a :: (segG 30 1 (flat (ic .u32)) p.l ++ O)) w) : Pm w0 (netP p ++ a :: O) w := by
 refine h.permute (List.Perm.cons _ ?_)
 exact List.perm_middle.symm
theorem seg_mem {T : List Pc} (h : s ∈ ss) : Pc.row (.slice s.A s.l.length s.c) e size s.l.length (enc s.l) ∈ segG e size enc ss ++ T := List.mem_append_left _ (List.mem_map_of_mem (f := Sg.pc e size enc) h)
theorem segA {A : Option Addr} {n c : Nat} {xs : List Value} (h : Pm w0 L w) (hm : Pc.row (.slice A n c) e size n xs ∈ L) (hn : 0 < n) : ∃ g, A = some ⟨g, 0, none⟩ := by
 obtain ⟨k, hk⟩ := List.getElem?_of_mem hm
 exact rowA h hk hn
theorem seg_cell {c : α → List Value} {k g i : Nat} {x : α} (K : Cel c k) (h : Pm w0 L w) (hm : Pc.row (.slice s.A s.l.length s.c) e k s.l.length (flat c s.l) ∈ L) (hA : s.A = some ⟨g, 0, none⟩) (hx : s.l[i]? = some x) (j : Nat) (u : Value) (hu : (c x)[j]? = some u) : w.cell? ⟨g, 0 + i * k + j, none⟩ = some u := by
 obtain ⟨q, hq⟩ := List.getElem?_of_mem hm
 rw [hA] at hq
 exact flat_row K h hq hx j u hu
end
theorem dntzv119 (w : World) : (zeroValue 92).run Tryz.prog w = .ok (.agg #[.int .i64 0, .int .u32 0, .int .i64 0, .slice none 0 0, .int .u32 0]) w := rfl
theorem dntbld119_60100 (a0_0 : Int) (a0_1 : Int) (a0_2 : Int) (w : World) : (Instr.build 92 #[(0, .agg #[.int .i64 a0_0, .int .u32 a0_1, .int .i64 a0_2])]).run Tryz.prog w = .ok (.agg #[.int .i64 a0_0, .int .u32 a0_1, .int .i64 a0_2, .slice none 0 0, .int .u32 0]) w := by kernel_rfl
theorem dntsz119 (w : World) : (sizeOf 92).run Tryz.prog w = .ok 5 w := rfl
theorem dntone_i64u32i64su32 {a0 : Int} {a1 : Int} {a2 : Int} {a3 : Option Addr} {n3 c3 : Nat} {a4 : Int} : ∀ u ∈ [(.int .i64 a0 : Value), .int .u32 a1, .int .i64 a2, .slice a3 n3 c3, .int .u32 a4], u.oneCell' = true := by
 intro u hu
 simp only [List.mem_cons, List.not_mem_nil, or_false] at hu
 rcases hu with rfl | rfl | rfl | rfl | rfl <;> rfl
theorem dntfld119_0 : FA Tryz.prog 92 0 0 := fun g o w => by kernel_rfl
theorem dntfld119_2 : FA Tryz.prog 92 2 4 := fun g o w => by kernel_rfl
theorem dntsz30 (w : World) : (sizeOf 30).run Tryz.prog w = .ok 1 w := rfl
theorem dntone_u32 {a0 : Int} : ∀ u ∈ [(.int .u32 a0 : Value)], u.oneCell' = true := by
 intro u hu
 rw [List.mem_singleton] at hu
 subst hu; rfl
theorem dntfld119_1 : FA Tryz.prog 92 1 3 := fun g o w => by kernel_rfl
theorem dntag117 (w : World) : (isAgg 90).run Tryz.prog w = .ok false w := rfl
theorem dntsz64 (w : World) : (sizeOf 96).run Tryz.prog w = .ok 1 w := rfl
theorem dntag64 (w : World) : (isAgg 96).run Tryz.prog w = .ok false w := rfl
theorem dntbs64_1_5377 (a0_0 : Int) (w : World) : (Instr.buildSlice 96 1 #[(0, .int .u32 a0_0)]).run Tryz.prog w = .ok (.slice (some ⟨w.heap.size, 0, none⟩) 1 1) (w.alloc (.cells [.int .u32 a0_0].toArray 30)) := by kernel_rfl
theorem dntel64 : Elem Tryz.prog 96 30 1 4 := Elem.mk' Tryz.underlying96 (z := .int .u32 0) (by kernel_rfl) rfl (by omega) (by omega)
theorem dntbs117_1_58639 (a0_0 : Option Addr) (a0_0n a0_0c : Nat) (w : World) : (Instr.buildSlice 90 1 #[(0, .slice a0_0 a0_0n a0_0c)]).run Tryz.prog w = .ok (.slice (some ⟨w.heap.size, 0, none⟩) 1 1) (w.alloc (.cells [.slice a0_0 a0_0n a0_0c].toArray 96)) := by kernel_rfl
theorem dntel117 : Elem Tryz.prog 90 96 1 24 := Elem.mk' Tryz.underlying90 (z := .slice none 0 0) (by kernel_rfl) rfl (by omega) (by omega)
theorem dntsz117 (w : World) : (sizeOf 90).run Tryz.prog w = .ok 1 w := rfl
theorem dntone_s {a0 : Option Addr} {n0 c0 : Nat} : ∀ u ∈ [(.slice a0 n0 c0 : Value)], u.oneCell' = true := by
 intro u hu
 rw [List.mem_singleton] at hu
 subst hu; rfl
theorem dntag119 (w : World) : (isAgg 92).run Tryz.prog w = .ok true w := rfl
theorem dproto_cod (cb : Nat) (w : World) (hC : Cod w cb) :
  Calls Tryz.prog 119 #[.pointer (some ⟨cb, 0, none⟩)] w fun e w' => ∃ x : {v : Int // v = 17 ∨ v = 1 ∨ v = 6}, e = .returned (.int .i64 x.1) ∧ Codr (fun w => Cod w cb) cb w ([]) w' := by
 refine begin_ (vs := [.pointer (some ⟨cb, 0, none⟩)]) (I := Pm ⟨w, cb⟩ (.abs cb (fun w => Cod w cb) :: oths cb w)) Tryz.func119 rfl rfl rfl ?_ (Pm.codes hC (cod_cells hC) (cod_stab cb))
 refine zSG (TL.as_ ?_)
 refine zET (zSG (TL.mv ?_))
 refine TL.prowS (e := 3) (size := 1) (cs := flat (ic .i64) [17, 1, 6]) rfl rfl rfl rfl rfl (fun w => pcmbs106_3_44640 _ _ _ w) (by decide) rfl (fun g4 => ?_)
 refine TL.pcallCod (k := 1) (α := {v : Int // v ∈ ([17, 1, 6] : List Int)}) (fun x => .int .i64 x.1) (fun x => []) rfl rfl rfl rfl rfl Tryz.func22 (by decide) rfl rfl (fun w1 hw hC1 => pick_cod cb w1 hC1 g4 3 ([17, 1, 6]) (hw.neq (i := 0) (j := 1) rfl rfl (by decide) g4 rfl <| congrArg some ·.symm) (Pc.lt (hw.at_ (k := 0) rfl) g4 rfl).2 (by show 0 < ([17, 1, 6] : List Int).length; simp) (fun i v hi => flat_row1 hw (q := 0) rfl hi)) ?_
 rintro ⟨v, hv⟩
 dsimp only [List.cons_append, List.nil_append]
 have hvb : v = 17 ∨ v = 1 ∨ v = 6 := by simpa using hv
 refine TL.as_ ?_
 refine zET (zr ?_)
 exact ret_tmp Tryz.results119 rfl (fun w1 hw => ⟨⟨v, hvb⟩, rfl, Pm.codr [] (hw.sel (.cons _ (.cons_cons _ (List.Sublist.refl _)))) rfl⟩)
theorem dtrace_cod (cb : Nat) (w : World) (hC : Cod w cb) :
  Calls Tryz.prog 68 #[.pointer (some ⟨cb, 0, none⟩)] w fun e w' => ∃ x : {t : Trc // TrOk t}, e = .returned (.agg x.1.cells.toArray) ∧ Codr (fun w => Cod w cb) cb w ([]) w' := by
 refine begin_ (vs := [.pointer (some ⟨cb, 0, none⟩)]) (I := Pm ⟨w, cb⟩ (.abs cb (fun w => Cod w cb) :: oths cb w)) Tryz.func68 rfl rfl rfl ?_ (Pm.codes hC (cod_cells hC) (cod_stab cb))
 refine zSG ?_
 refine TL.pnew rfl rfl rfl (exec_alloc (cs := [.int .i64 0, .int .u32 0, .int .i64 0]) rfl prszv32 rfl) (fun g2 => ?_)
 refine zET (zSG (TL.mv ?_))
 refine TL.pcallCod (k := 1) (α := {q9 : Nat // q9 ≤ 65535 ∧ (1 ≤ (2 : Int) → (q9 : Int) < 2)}) (fun q9 => .int .i64 ((q9.1 : Nat) : Int)) (fun q9 => []) rfl rfl rfl rfl rfl Tryz.func21 (by decide) rfl rfl (fun w1 hw hC1 => next_cod cb w1 2 hC1) ?_
 rintro ⟨a0, ha01, ha02⟩
 dsimp only [List.cons_append, List.nil_append]
 refine TL.mv ?_
 refine TL.pcallCod (k := 1) (α := {q9 : Nat // q9 ≤ 65535 ∧ (1 ≤ (3 : Int) → (q9 : Int) < 3)}) (fun q9 => .int .i64 ((q9.1 : Nat) : Int)) (fun q9 => []) rfl rfl rfl rfl rfl Tryz.func21 (by decide) rfl rfl (fun w1 hw hC1 => next_cod cb w1 3 hC1) ?_
 rintro ⟨a1, ha11, ha12⟩
 dsimp only [List.cons_append, List.nil_append]
 refine TL.v (gD ((167774464 + a1 : Nat) : Int)) ?_
 refine TL.val rfl rfl rfl (gives_conv rfl rfl (fun w => conv_fit (k := .i64) Tryz.underlying30 Tryz.underlying3 (by simp only [IntKind.wrap_u32]; omega) w)) ?_
 refine TL.mv ?_
 refine TL.pcallCod (k := 1) (α := {v : Int // v = 17 ∨ v = 1 ∨ v = 6}) (fun x => .int .i64 x.1) (fun x => []) rfl rfl rfl rfl rfl Tryz.func119 (by decide) rfl rfl (fun w1 hw hC1 => dproto_cod cb w1 hC1) ?_
 rintro ⟨pp, hpp⟩
 dsimp only [List.cons_append, List.nil_append]
 refine TL.val rfl rfl rfl (gives_build (v := .agg #[.int .i64 ((a0 : Nat) : Int), .int .u32 ((167774464 + a1 : Nat) : Int), .int .i64 pp]) rfl rfl (fun w => prsbld32_57312 _ _ _ w)) ?_
 refine TL.pstore (k := 0) (vs := [.int .i64 ((a0 : Nat) : Int), .int .u32 ((167774464 + a1 : Nat) : Int), .int .i64 pp]) rfl rfl rfl rfl rfl rfl rfl prssz32 prsone_i64u32i64 (by show 3 ≤ 3; decide) rfl ?_
 refine zET (zr ?_)
 exact pm_ret_cell (k := 0) Tryz.results68 rfl rfl Tryz.underlying32 rfl rfl (fun w1 hw => ⟨⟨⟨((a0 : Nat) : Int), ((167774464 + a1 : Nat) : Int), pp⟩, by unfold TrOk; dsimp only; omega⟩, rfl, Pm.codr [] (hw.sel (.cons _ (.cons_cons _ (List.Sublist.refl _)))) rfl⟩)
theorem scene_cod (cb : Nat) (w : World) (hC : Cod w cb) :
  Calls Tryz.prog 63 #[.pointer (some ⟨cb, 0, none⟩)] w fun e w' => ∃ x : {y : Nt // NtOk y}, e = .returned (.agg x.1.cells.toArray) ∧ Codr (fun w => Cod w cb) cb w (netP x.1.ps) w' := by
 refine begin_ (vs := [.pointer (some ⟨cb, 0, none⟩)]) (I := Pm ⟨w, cb⟩ (.abs cb (fun w => Cod w cb) :: oths cb w)) Tryz.func63 rfl rfl rfl ?_ (Pm.codes hC (cod_cells hC) (cod_stab cb))
 refine zSG ?_
 refine TL.pnew rfl rfl rfl (exec_alloc (cs := [.int .i64 0, .int .u32 0, .int .i64 0, .slice none 0 0, .int .u32 0]) rfl dntzv119 rfl) (fun g2 => ?_)
 refine zET (zSG (TL.mv ?_))
 refine TL.pcallCod (k := 1) (α := {t : Trc // TrOk t}) (fun x => .agg (x.1.cells).toArray) (fun x => []) rfl rfl rfl rfl rfl Tryz.func68 (by decide) rfl rfl (fun w1 hw hC1 => dtrace_cod cb w1 hC1) ?_
 rintro ⟨tr, htr⟩
 dsimp only [List.cons_append, List.nil_append]
 refine TL.val rfl rfl rfl (gives_build (v := .agg #[.int .i64 tr.v, .int .u32 tr.dst, .int .i64 tr.proto, .slice none 0 0, .int .u32 0]) rfl rfl (fun w => dntbld119_60100 _ _ _ w)) ?_
 refine TL.pnew rfl rfl rfl (exec_alloc (cs := [.int .i64 0, .int .u32 0, .int .i64 0, .slice none 0 0, .int .u32 0]) rfl dntzv119 rfl) (fun g3 => ?_)
 refine TL.pstore (k := 0) (vs := [.int .i64 tr.v, .int .u32 tr.dst, .int .i64 tr.proto, .slice none 0 0, .int .u32 0]) rfl rfl rfl rfl rfl rfl rfl dntsz119 dntone_i64u32i64su32 (by show 5 ≤ 5; decide) rfl ?_
 refine zET (zS ?_)
 have htr2 := htr
 unfold TrOk at htr2
 refine zG (TL.v (gF dntfld119_0) ?_)
 refine TL.v (gF pcmfld32_1) ?_
 refine TL.v (gL 0 pcmag30) ?_
 refine TL.v (gF dntfld119_2) ?_
 refine TL.pstore (k := 0) (vs := [.int .u32 tr.dst]) rfl rfl rfl rfl rfl rfl rfl dntsz30 dntone_u32 (by show 5 ≤ 5; decide) rfl ?_
 refine zET ?_
 refine TC.join (α := {a : Int // 1 ≤ a ∧ a ≤ 167774466}) (fun y => [(0, .pointer (some ⟨cb, 0, none⟩)), (2, .pointer (some ⟨g2, 0, none⟩)), (3, .pointer (some ⟨g3, 0, none⟩))]) (fun y => Pm ⟨w, cb⟩ ([.blk g3 92 [.int .i64 tr.v, .int .u32 tr.dst, .int .i64 tr.proto, .slice none 0 0, .int .u32 y.1], .blk g2 92 [.int .i64 0, .int .u32 0, .int .i64 0, .slice none 0 0, .int .u32 0], .abs cb (fun w => Cod w cb)] ++ oths cb w)) ?_ ?_
 ·refine zSG (TL.mv ?_)
  refine TL.pcallCod (k := 2) (α := Bool) (fun x => .bool x) (fun x => []) rfl rfl rfl rfl rfl Tryz.func18 (by decide) rfl rfl (fun w1 hw hC1 => dbool_cod cb w1 hC1 4 (by decide)) ?_
  rintro b0
  dsimp only [List.cons_append, List.nil_append]
  refine zET ?_
  refine TC.split (t := b0) rfl (fun c17 => ?_) (fun c17 => ?_)
  ·refine zG (TL.mv ?_)
   refine TL.pcallCod (k := 2) (α := {a : Int // 167772161 ≤ a ∧ a ≤ 167772173}) (fun x => .int .u32 x.1) (fun x => []) rfl rfl rfl rfl rfl Tryz.func67 (by decide) rfl rfl (fun w1 hw hC1 => daddr_cod cb w1 hC1) ?_
   rintro ⟨ad, had1, had2⟩
   dsimp only [List.cons_append, List.nil_append]
   refine TL.v (gF dntfld119_2) ?_
   refine TL.pstore (k := 0) (vs := [.int .u32 ad]) rfl rfl rfl rfl rfl rfl rfl dntsz30 dntone_u32 (by show 5 ≤ 5; decide) rfl ?_
   refine zE ?_
   exact TX.joined (⟨ad, by omega⟩) (⟨rfl, rfl, rfl, trivial⟩) (fun w1 hw => hw)
  refine zk ?_
  exact TX.joined (⟨tr.dst, by omega⟩) (⟨rfl, rfl, rfl, trivial⟩) (fun w1 hw => hw)
 rintro ⟨la, hla⟩
 dsimp only at hla ⊢
 refine zSG (TL.mv ?_)
 refine TL.pcallCod (k := 2) (α := {q9 : Nat // q9 ≤ 65535 ∧ (1 ≤ (3 : Int) → (q9 : Int) < 3)}) (fun q9 => .int .i64 ((q9.1 : Nat) : Int)) (fun q9 => []) rfl rfl rfl rfl rfl Tryz.func21 (by decide) rfl rfl (fun w1 hw hC1 => next_cod cb w1 3 hC1) ?_
 rintro ⟨lg, hlg1, hlg2⟩
 dsimp only [List.cons_append, List.nil_append]
 refine TL.v (gD ((lg + 1 : Nat) : Int)) ?_
 refine TL.as_ ?_
 refine zET (zS (zSG (TL.as_ ?_)))
 refine zET (zB (TC.nilrow 96 1 ?_))
 refine TC.loop_ (α := {y : Nat × (Option Addr × Nat) × List (Sg Int) // y.1 ≤ 3 ∧ y.2.2.length = y.1 ∧ (∀ s ∈ y.2.2, PathW (lg + 1) s.l) ∧ y.2.2.length ≤ y.2.1.2 ∧ y.2.1.2 ≤ maxLen}) (fun y => [(0, .pointer (some ⟨cb, 0, none⟩)), (2, .pointer (some ⟨g2, 0, none⟩)), (3, .pointer (some ⟨g3, 0, none⟩)), (4, .int .i64 ((lg + 1 : Nat) : Int)), (5, .int .i64 ((y.1.1 : Nat) : Int))]) (fun y => Pm ⟨w, cb⟩ ([.row (.slice y.1.2.1.1 y.1.2.2.length y.1.2.1.2) 96 1 y.1.2.2.length (flat sgc y.1.2.2), .blk g3 92 [.int .i64 tr.v, .int .u32 tr.dst, .int .i64 tr.proto, .slice y.1.2.1.1 y.1.2.2.length y.1.2.1.2, .int .u32 la], .blk g2 92 [.int .i64 0, .int .u32 0, .int .i64 0, .slice none 0 0, .int .u32 0], .abs cb (fun w => Cod w cb)] ++ (segG 30 1 (flat (ic .u32)) y.1.2.2 ++ oths cb w))) (fun y => 3 - y.1.1) (⟨(0, (none, 0), []), Nat.zero_le _, rfl, fun s hs => absurd hs List.not_mem_nil, Nat.le_refl _, Nat.zero_le _⟩) ⟨rfl, rfl, rfl, rfl, rfl, trivial⟩ (fun w1 hw => hw) ?_
 rintro ⟨⟨f, ⟨Ap, cp⟩, pp⟩, hf, hfl, hpw, hpc, hpm⟩
 dsimp only at hf hfl hpw hpc hpm ⊢
 refine zS (zSG (TL.rn 2 rfl ?_))
 refine TL.pcallCod (k := 3) (α := {q9 : Nat // q9 ≤ 65535 ∧ (1 ≤ (3 : Int) → (q9 : Int) < 3)}) (fun q9 => .int .i64 ((q9.1 : Nat) : Int)) (fun q9 => []) rfl rfl rfl rfl rfl Tryz.func21 (by decide) rfl rfl (fun w1 hw hC1 => next_cod cb w1 3 hC1) ?_
 rintro ⟨nf, hnf1, hnf2⟩
 dsimp only [List.cons_append, List.nil_append]
 refine TL.v (gD ((1 + nf : Nat) : Int)) ?_
 refine TL.sp bin_lss (fun q28 => ?_) (fun q28 => ?_)
 ·refine zET (zc (zk (zT (zS (zB (zSG (TL.as_ ?_)))))))
  refine zET (zS (zSG (TL.as_ ?_)))
  refine zET (zB (TC.nilrow 30 1 ?_))
  refine TC.loop_ (α := {y : Nat × (Option Addr × Nat) × List Int // y.1 ≤ lg + 1 ∧ y.2.2.length = y.1 ∧ (∀ a ∈ y.2.2, 0 ≤ a ∧ a ≤ 167772173) ∧ y.2.2.length ≤ y.2.1.2 ∧ y.2.1.2 ≤ maxLen}) (fun y => [(0, .pointer (some ⟨cb, 0, none⟩)), (2, .pointer (some ⟨g2, 0, none⟩)), (3, .pointer (some ⟨g3, 0, none⟩)), (4, .int .i64 ((lg + 1 : Nat) : Int)), (5, .int .i64 ((f : Nat) : Int)), (7, .int .i64 ((y.1.1 : Nat) : Int)), (6, .slice y.1.2.1.1 y.1.2.2.length y.1.2.1.2)]) (fun y => Pm ⟨w, cb⟩ ([.row (.slice y.1.2.1.1 y.1.2.2.length y.1.2.1.2) 30 1 y.1.2.2.length (flat (ic .u32) y.1.2.2), .row (.slice Ap pp.length cp) 96 1 pp.length (flat sgc pp), .blk g3 92 [.int .i64 tr.v, .int .u32 tr.dst, .int .i64 tr.proto, .slice Ap pp.length cp, .int .u32 la], .blk g2 92 [.int .i64 0, .int .u32 0, .int .i64 0, .slice none 0 0, .int .u32 0], .abs cb (fun w => Cod w cb)] ++ (segG 30 1 (flat (ic .u32)) pp ++ oths cb w))) (fun y => lg + 1 - y.1.1) (⟨(0, (none, 0), []), Nat.zero_le _, rfl, fun s hs => absurd hs List.not_mem_nil, Nat.le_refl _, Nat.zero_le _⟩) ⟨rfl, rfl, rfl, rfl, rfl, rfl, rfl, trivial⟩ (fun w1 hw => hw) ?_
  rintro ⟨⟨i, ⟨Aq, cq⟩, p⟩, hi, hil, hpr, hqc, hqm⟩
  dsimp only at hi hil hpr hqc hqm ⊢
  refine zS (zSG (TL.rn 2 rfl ?_))
  refine TL.sp bin_lss (fun q33 => ?_) (fun q33 => ?_)
  ·refine zET (zc (zk (zT (zS (zB (zSG (TL.mv ?_)))))))
   refine TL.pcallCod (k := 4) (α := {a : Int // 167772161 ≤ a ∧ a ≤ 167772173}) (fun x => .int .u32 x.1) (fun x => []) rfl rfl rfl rfl rfl Tryz.func67 (by decide) rfl rfl (fun w1 hw hC1 => daddr_cod cb w1 hC1) ?_
   rintro ⟨ad, had1, had2⟩
   dsimp only [List.cons_append, List.nil_append]
   refine TL.as_ ?_
   refine zET (zS (zSG (TL.mv ?_)))
   refine TL.pcallCod (k := 4) (α := Bool) (fun x => .bool x) (fun x => []) rfl rfl rfl rfl rfl Tryz.func18 (by decide) rfl rfl (fun w1 hw hC1 => dbool_cod cb w1 hC1 6 (by decide)) ?_
   rintro b1
   dsimp only [List.cons_append, List.nil_append]
   refine zET ?_
   refine TC.split (t := b1) rfl (fun c39 => ?_) (fun c39 => ?_)
   ·refine zG (TL.as_ ?_)
    refine zET (zS (zSG (TL.mv ?_)))
    refine TL.sp bin_gtr (fun q41 => ?_) (fun q41 => ?_)
    ·refine TL.rn 2 rfl (TL.ov (gF dntfld119_1) ?_)
     refine TL.ov (gL 2 dntag117) ?_
     refine TL.gu ?_
     refine TL.fact (p := ∃ g, Ap = some ⟨g, 0, none⟩) (fun w1 hw => rowA hw (k := 1) rfl (by omega)) ?_
     rintro ⟨g_Ap, rfl⟩
     have hi46 : 0 < pp.length := by omega
     obtain ⟨x46, hx46⟩ := ex_at hi46
     refine TL.val rfl rfl rfl (gA (i := 0) Tryz.underlying90 dntsz64 rfl rfl rfl rfl rfl (by omega)) ?_
     refine TL.gu ?_
     refine TL.val rfl rfl rfl (gives_load (v := .slice x46.A x46.l.length x46.c) rfl rfl dntag64 (fun w1 hw => flat_row sgc_cel hw (q := 1) rfl hx46 0 _ rfl)) ?_
     refine TL.ov (gN Tryz.underlying96) ?_
     refine TL.gu ?_
     refine TL.sp bin_lss (fun q49 => ?_) (fun q49 => ?_)
     ·refine TL.rn 3 rfl (TL.gu ?_)
      refine TL.pcallCod (k := 4) (α := Bool) (fun x => .bool x) (fun x => []) rfl rfl rfl rfl rfl Tryz.func18 (by decide) rfl rfl (fun w1 hw hC1 => dbool_cod cb w1 hC1 3 (by decide)) ?_
      rintro b2
      dsimp only [List.cons_append, List.nil_append]
      cases b2 with
      | true =>
       refine TL.rn 2 rfl (zET (zd (zk (zT (zG (TL.rn 2 rfl ?_))))))
       refine TL.prowS (e := 30) (size := 1) (cs := flat (ic .u32) [0]) rfl rfl rfl rfl rfl (fun w => dntbs64_1_5377 _ w) (by decide) rfl (fun g65 => ?_)
       refine TL.appendT (k := 1) rfl rfl rfl rfl Tryz.underlying96 dntel64 rfl rfl rfl (fun w1 hw => pm_reads hw (k := 0) rfl) (flat_one (ic_cel .u32) _) (by show _ * 4 ≤ _; omega) ((p ++ [0]).length) (by rw [List.length_append]; rfl) (flat (ic .u32) (p ++ [0])) ((flat_app _ _).symm) (fun A66 c66 hA661 hA662 => ?_)
       refine TL.as_ ?_
       refine zE (zN (zT (zG (TL.mv ?_))))
       refine TL.v (gD ((i + 1 : Nat) : Int)) ?_
       refine TL.as_ ?_
       refine zE ?_
       exact TX.round (⟨(i + 1, (A66, c66), p ++ [0]), by dsimp only; omega, by dsimp only; rw [List.length_append]; show p.length + 1 = i + 1; omega, ad_snoc hpr (by omega), hA661, hA662⟩) (by show lg + 1 - (i + 1) < lg + 1 - i; omega) ⟨rfl, rfl, rfl, rfl, rfl, rfl, rfl, trivial⟩ (fun w1 hw => hw.sel (.cons _ (.cons_cons _ (.cons_cons _ (.cons_cons _ (.cons_cons _ (.cons_cons _ (List.Sublist.refl _))))))))
      | false =>
       refine TL.rn 2 rfl (zET (zc (zG (TL.v (gF dntfld119_1) ?_))))
       refine TL.v (gL 2 dntag117) ?_
       refine TL.val rfl rfl rfl (gA (i := 0) Tryz.underlying90 dntsz64 rfl rfl rfl rfl rfl (by omega)) ?_
       refine TL.val rfl rfl rfl (gives_load (v := .slice x46.A x46.l.length x46.c) rfl rfl dntag64 (fun w1 hw => flat_row sgc_cel hw (q := 1) rfl hx46 0 _ rfl)) ?_
       refine TL.mv ?_
       have hmm61 := seg_mem (e := 30) (size := 1) (enc := flat (ic .u32)) (T := oths cb w) (List.mem_of_getElem? hx46)
       refine TL.fact (p := ∃ g, x46.A = some ⟨g, 0, none⟩) (fun w1 hw => segA hw (List.mem_of_mem_drop (i := 5) (by exact hmm61)) (by omega)) ?_
       rintro ⟨gx61, hgx61⟩
       obtain ⟨z61, hz61⟩ : ∃ z, x46.l[i]? = some z := ⟨_, List.getElem?_eq_getElem (by omega)⟩
       refine TL.val rfl rfl rfl (gA (i := i) Tryz.underlying96 dntsz30 rfl rfl rfl rfl hgx61 (by omega)) ?_
       refine TL.val rfl rfl rfl (gives_load (v := .int .u32 z61) rfl rfl pcmag30 (fun w1 hw => seg_cell (ic_cel .u32) hw (List.mem_of_mem_drop (i := 5) (by exact hmm61)) hgx61 hz61 0 _ rfl)) ?_
       have hzr := (hpw x46 (List.mem_of_getElem? hx46)).2 z61 (List.mem_of_getElem? hz61)
       refine TL.as_ ?_
       refine zET (zG (TL.rn 2 rfl ?_))
       refine TL.prowS (e := 30) (size := 1) (cs := flat (ic .u32) [z61]) rfl rfl rfl rfl rfl (fun w => dntbs64_1_5377 _ w) (by decide) rfl (fun g65 => ?_)
       refine TL.appendT (k := 1) rfl rfl rfl rfl Tryz.underlying96 dntel64 rfl rfl rfl (fun w1 hw => pm_reads hw (k := 0) rfl) (flat_one (ic_cel .u32) _) (by show _ * 4 ≤ _; omega) ((p ++ [z61]).length) (by rw [List.length_append]; rfl) (flat (ic .u32) (p ++ [z61])) ((flat_app _ _).symm) (fun A66 c66 hA661 hA662 => ?_)
       refine TL.as_ ?_
       refine zE (zN (zT (zG (TL.mv ?_))))
       refine TL.v (gD ((i + 1 : Nat) : Int)) ?_
       refine TL.as_ ?_
       refine zE ?_
       exact TX.round (⟨(i + 1, (A66, c66), p ++ [z61]), by dsimp only; omega, by dsimp only; rw [List.length_append]; show p.length + 1 = i + 1; omega, ad_snoc hpr (by exact hzr), hA661, hA662⟩) (by show lg + 1 - (i + 1) < lg + 1 - i; omega) ⟨rfl, rfl, rfl, rfl, rfl, rfl, rfl, trivial⟩ (fun w1 hw => hw.sel (.cons _ (.cons_cons _ (.cons_cons _ (.cons_cons _ (.cons_cons _ (.cons_cons _ (List.Sublist.refl _))))))))
     refine TL.rn 6 rfl (zET (zd (zk (zT (zG (TL.rn 2 rfl ?_))))))
     refine TL.prowS (e := 30) (size := 1) (cs := flat (ic .u32) [0]) rfl rfl rfl rfl rfl (fun w => dntbs64_1_5377 _ w) (by decide) rfl (fun g65 => ?_)
     refine TL.appendT (k := 1) rfl rfl rfl rfl Tryz.underlying96 dntel64 rfl rfl rfl (fun w1 hw => pm_reads hw (k := 0) rfl) (flat_one (ic_cel .u32) _) (by show _ * 4 ≤ _; omega) ((p ++ [0]).length) (by rw [List.length_append]; rfl) (flat (ic .u32) (p ++ [0])) ((flat_app _ _).symm) (fun A66 c66 hA661 hA662 => ?_)
     refine TL.as_ ?_
     refine zE (zN (zT (zG (TL.mv ?_))))
     refine TL.v (gD ((i + 1 : Nat) : Int)) ?_
     refine TL.as_ ?_
     refine zE ?_
     exact TX.round (⟨(i + 1, (A66, c66), p ++ [0]), by dsimp only; omega, by dsimp only; rw [List.length_append]; show p.length + 1 = i + 1; omega, ad_snoc hpr (by omega), hA661, hA662⟩) (by show lg + 1 - (i + 1) < lg + 1 - i; omega) ⟨rfl, rfl, rfl, rfl, rfl, rfl, rfl, trivial⟩ (fun w1 hw => hw.sel (.cons _ (.cons_cons _ (.cons_cons _ (.cons_cons _ (.cons_cons _ (.cons_cons _ (List.Sublist.refl _))))))))
    refine TL.rn 14 rfl (zET (zd (zk (zT (zG (TL.rn 2 rfl ?_))))))
    refine TL.prowS (e := 30) (size := 1) (cs := flat (ic .u32) [0]) rfl rfl rfl rfl rfl (fun w => dntbs64_1_5377 _ w) (by decide) rfl (fun g65 => ?_)
    refine TL.appendT (k := 1) rfl rfl rfl rfl Tryz.underlying96 dntel64 rfl rfl rfl (fun w1 hw => pm_reads hw (k := 0) rfl) (flat_one (ic_cel .u32) _) (by show _ * 4 ≤ _; omega) ((p ++ [0]).length) (by rw [List.length_append]; rfl) (flat (ic .u32) (p ++ [0])) ((flat_app _ _).symm) (fun A66 c66 hA661 hA662 => ?_)
    refine TL.as_ ?_
    refine zE (zN (zT (zG (TL.mv ?_))))
    refine TL.v (gD ((i + 1 : Nat) : Int)) ?_
    refine TL.as_ ?_
    refine zE ?_
    exact TX.round (⟨(i + 1, (A66, c66), p ++ [0]), by dsimp only; omega, by dsimp only; rw [List.length_append]; show p.length + 1 = i + 1; omega, ad_snoc hpr (by omega), hA661, hA662⟩) (by show lg + 1 - (i + 1) < lg + 1 - i; omega) ⟨rfl, rfl, rfl, rfl, rfl, rfl, rfl, trivial⟩ (fun w1 hw => hw.sel (.cons _ (.cons_cons _ (.cons_cons _ (.cons_cons _ (.cons_cons _ (.cons_cons _ (List.Sublist.refl _))))))))
   refine zk (zT (zS (zSG ?_)))
   refine TL.mv ?_
   refine TL.sp bin_gtr (fun q41 => ?_) (fun q41 => ?_)
   ·refine TL.rn 2 rfl (TL.ov (gF dntfld119_1) ?_)
    refine TL.ov (gL 2 dntag117) ?_
    refine TL.gu ?_
    refine TL.fact (p := ∃ g, Ap = some ⟨g, 0, none⟩) (fun w1 hw => rowA hw (k := 1) rfl (by omega)) ?_
    rintro ⟨g_Ap, rfl⟩
    have hi46 : 0 < pp.length := by omega
    obtain ⟨x46, hx46⟩ := ex_at hi46
    refine TL.val rfl rfl rfl (gA (i := 0) Tryz.underlying90 dntsz64 rfl rfl rfl rfl rfl (by omega)) ?_
    refine TL.gu ?_
    refine TL.val rfl rfl rfl (gives_load (v := .slice x46.A x46.l.length x46.c) rfl rfl dntag64 (fun w1 hw => flat_row sgc_cel hw (q := 1) rfl hx46 0 _ rfl)) ?_
    refine TL.ov (gN Tryz.underlying96) ?_
    refine TL.gu ?_
    refine TL.sp bin_lss (fun q49 => ?_) (fun q49 => ?_)
    ·refine TL.rn 3 rfl (TL.gu ?_)
     refine TL.pcallCod (k := 4) (α := Bool) (fun x => .bool x) (fun x => []) rfl rfl rfl rfl rfl Tryz.func18 (by decide) rfl rfl (fun w1 hw hC1 => dbool_cod cb w1 hC1 3 (by decide)) ?_
     rintro b2
     dsimp only [List.cons_append, List.nil_append]
     cases b2 with
     | true =>
      refine TL.rn 2 rfl (zET (zd (zk (zT (zG (TL.rn 2 rfl ?_))))))
      refine TL.prowS (e := 30) (size := 1) (cs := flat (ic .u32) [ad]) rfl rfl rfl rfl rfl (fun w => dntbs64_1_5377 _ w) (by decide) rfl (fun g65 => ?_)
      refine TL.appendT (k := 1) rfl rfl rfl rfl Tryz.underlying96 dntel64 rfl rfl rfl (fun w1 hw => pm_reads hw (k := 0) rfl) (flat_one (ic_cel .u32) _) (by show _ * 4 ≤ _; omega) ((p ++ [ad]).length) (by rw [List.length_append]; rfl) (flat (ic .u32) (p ++ [ad])) ((flat_app _ _).symm) (fun A66 c66 hA661 hA662 => ?_)
      refine TL.as_ ?_
      refine zE (zN (zT (zG (TL.mv ?_))))
      refine TL.v (gD ((i + 1 : Nat) : Int)) ?_
      refine TL.as_ ?_
      refine zE ?_
      exact TX.round (⟨(i + 1, (A66, c66), p ++ [ad]), by dsimp only; omega, by dsimp only; rw [List.length_append]; show p.length + 1 = i + 1; omega, ad_snoc hpr (by omega), hA661, hA662⟩) (by show lg + 1 - (i + 1) < lg + 1 - i; omega) ⟨rfl, rfl, rfl, rfl, rfl, rfl, rfl, trivial⟩ (fun w1 hw => hw.sel (.cons _ (.cons_cons _ (.cons_cons _ (.cons_cons _ (.cons_cons _ (.cons_cons _ (List.Sublist.refl _))))))))
     | false =>
      refine TL.rn 2 rfl (zET (zc (zG (TL.v (gF dntfld119_1) ?_))))
      refine TL.v (gL 2 dntag117) ?_
      refine TL.val rfl rfl rfl (gA (i := 0) Tryz.underlying90 dntsz64 rfl rfl rfl rfl rfl (by omega)) ?_
      refine TL.val rfl rfl rfl (gives_load (v := .slice x46.A x46.l.length x46.c) rfl rfl dntag64 (fun w1 hw => flat_row sgc_cel hw (q := 1) rfl hx46 0 _ rfl)) ?_
      refine TL.mv ?_
      have hmm61 := seg_mem (e := 30) (size := 1) (enc := flat (ic .u32)) (T := oths cb w) (List.mem_of_getElem? hx46)
      refine TL.fact (p := ∃ g, x46.A = some ⟨g, 0, none⟩) (fun w1 hw => segA hw (List.mem_of_mem_drop (i := 5) (by exact hmm61)) (by omega)) ?_
      rintro ⟨gx61, hgx61⟩
      obtain ⟨z61, hz61⟩ : ∃ z, x46.l[i]? = some z := ⟨_, List.getElem?_eq_getElem (by omega)⟩
      refine TL.val rfl rfl rfl (gA (i := i) Tryz.underlying96 dntsz30 rfl rfl rfl rfl hgx61 (by omega)) ?_
      refine TL.val rfl rfl rfl (gives_load (v := .int .u32 z61) rfl rfl pcmag30 (fun w1 hw => seg_cell (ic_cel .u32) hw (List.mem_of_mem_drop (i := 5) (by exact hmm61)) hgx61 hz61 0 _ rfl)) ?_
      have hzr := (hpw x46 (List.mem_of_getElem? hx46)).2 z61 (List.mem_of_getElem? hz61)
      refine TL.as_ ?_
      refine zET (zG (TL.rn 2 rfl ?_))
      refine TL.prowS (e := 30) (size := 1) (cs := flat (ic .u32) [z61]) rfl rfl rfl rfl rfl (fun w => dntbs64_1_5377 _ w) (by decide) rfl (fun g65 => ?_)
      refine TL.appendT (k := 1) rfl rfl rfl rfl Tryz.underlying96 dntel64 rfl rfl rfl (fun w1 hw => pm_reads hw (k := 0) rfl) (flat_one (ic_cel .u32) _) (by show _ * 4 ≤ _; omega) ((p ++ [z61]).length) (by rw [List.length_append]; rfl) (flat (ic .u32) (p ++ [z61])) ((flat_app _ _).symm) (fun A66 c66 hA661 hA662 => ?_)
      refine TL.as_ ?_
      refine zE (zN (zT (zG (TL.mv ?_))))
      refine TL.v (gD ((i + 1 : Nat) : Int)) ?_
      refine TL.as_ ?_
      refine zE ?_
      exact TX.round (⟨(i + 1, (A66, c66), p ++ [z61]), by dsimp only; omega, by dsimp only; rw [List.length_append]; show p.length + 1 = i + 1; omega, ad_snoc hpr (by exact hzr), hA661, hA662⟩) (by show lg + 1 - (i + 1) < lg + 1 - i; omega) ⟨rfl, rfl, rfl, rfl, rfl, rfl, rfl, trivial⟩ (fun w1 hw => hw.sel (.cons _ (.cons_cons _ (.cons_cons _ (.cons_cons _ (.cons_cons _ (.cons_cons _ (List.Sublist.refl _))))))))
    refine TL.rn 6 rfl (zET (zd (zk (zT (zG (TL.rn 2 rfl ?_))))))
    refine TL.prowS (e := 30) (size := 1) (cs := flat (ic .u32) [ad]) rfl rfl rfl rfl rfl (fun w => dntbs64_1_5377 _ w) (by decide) rfl (fun g65 => ?_)
    refine TL.appendT (k := 1) rfl rfl rfl rfl Tryz.underlying96 dntel64 rfl rfl rfl (fun w1 hw => pm_reads hw (k := 0) rfl) (flat_one (ic_cel .u32) _) (by show _ * 4 ≤ _; omega) ((p ++ [ad]).length) (by rw [List.length_append]; rfl) (flat (ic .u32) (p ++ [ad])) ((flat_app _ _).symm) (fun A66 c66 hA661 hA662 => ?_)
    refine TL.as_ ?_
    refine zE (zN (zT (zG (TL.mv ?_))))
    refine TL.v (gD ((i + 1 : Nat) : Int)) ?_
    refine TL.as_ ?_
    refine zE ?_
    exact TX.round (⟨(i + 1, (A66, c66), p ++ [ad]), by dsimp only; omega, by dsimp only; rw [List.length_append]; show p.length + 1 = i + 1; omega, ad_snoc hpr (by omega), hA661, hA662⟩) (by show lg + 1 - (i + 1) < lg + 1 - i; omega) ⟨rfl, rfl, rfl, rfl, rfl, rfl, rfl, trivial⟩ (fun w1 hw => hw.sel (.cons _ (.cons_cons _ (.cons_cons _ (.cons_cons _ (.cons_cons _ (.cons_cons _ (List.Sublist.refl _))))))))
   refine TL.rn 14 rfl (zET (zd (zk (zT (zG (TL.rn 2 rfl ?_))))))
   refine TL.prowS (e := 30) (size := 1) (cs := flat (ic .u32) [ad]) rfl rfl rfl rfl rfl (fun w => dntbs64_1_5377 _ w) (by decide) rfl (fun g65 => ?_)
   refine TL.appendT (k := 1) rfl rfl rfl rfl Tryz.underlying96 dntel64 rfl rfl rfl (fun w1 hw => pm_reads hw (k := 0) rfl) (flat_one (ic_cel .u32) _) (by show _ * 4 ≤ _; omega) ((p ++ [ad]).length) (by rw [List.length_append]; rfl) (flat (ic .u32) (p ++ [ad])) ((flat_app _ _).symm) (fun A66 c66 hA661 hA662 => ?_)
   refine TL.as_ ?_
   refine zE (zN (zT (zG (TL.mv ?_))))
   refine TL.v (gD ((i + 1 : Nat) : Int)) ?_
   refine TL.as_ ?_
   refine zE ?_
   exact TX.round (⟨(i + 1, (A66, c66), p ++ [ad]), by dsimp only; omega, by dsimp only; rw [List.length_append]; show p.length + 1 = i + 1; omega, ad_snoc hpr (by omega), hA661, hA662⟩) (by show lg + 1 - (i + 1) < lg + 1 - i; omega) ⟨rfl, rfl, rfl, rfl, rfl, rfl, rfl, trivial⟩ (fun w1 hw => hw.sel (.cons _ (.cons_cons _ (.cons_cons _ (.cons_cons _ (.cons_cons _ (.cons_cons _ (List.Sublist.refl _))))))))
  refine zET (zd (zx (zX (zX (zM (zT (zG (TL.v (gF dntfld119_1) ?_))))))))
  refine TL.v (gL 2 dntag117) ?_
  refine TL.mv ?_
  refine TL.prowS (e := 96) (size := 1) (cs := flat sgc [(⟨Aq, cq, p⟩ : Sg Int)]) rfl rfl rfl rfl rfl (fun w => dntbs117_1_58639 _ _ _ w) (by decide) rfl (fun g70 => ?_)
  refine TL.appendT (k := 2) rfl rfl rfl rfl Tryz.underlying90 dntel117 rfl rfl rfl (fun w1 hw => pm_reads hw (k := 0) rfl) (flat_one sgc_cel _) (by show _ * 24 ≤ _; omega) ((pp ++ [(⟨Aq, cq, p⟩ : Sg Int)]).length) (by rw [List.length_append]; rfl) (flat sgc (pp ++ [(⟨Aq, cq, p⟩ : Sg Int)])) ((flat_app _ _).symm) (fun A71 c71 hA711 hA712 => ?_)
  refine TL.v (gF dntfld119_1) ?_
  refine TL.pstore (k := 3) (vs := [.slice A71 ((pp ++ [(⟨Aq, cq, p⟩ : Sg Int)]).length) c71]) rfl rfl rfl rfl rfl rfl rfl dntsz117 dntone_s (by show 4 ≤ 5; decide) rfl ?_
  refine zE (zN (zT (zG (TL.mv ?_))))
  refine TL.v (gD ((f + 1 : Nat) : Int)) ?_
  refine TL.as_ ?_
  refine zE ?_
  exact TX.round (⟨(f + 1, (A71, c71), pp ++ [(⟨Aq, cq, p⟩ : Sg Int)]), by dsimp only; omega, by dsimp only; rw [List.length_append]; show pp.length + 1 = f + 1; omega, pw_snoc hpw ⟨by show p.length = _; omega, hpr⟩, hA711, hA712⟩) (by show 3 - (f + 1) < 3 - f; omega) ⟨rfl, rfl, rfl, rfl, rfl, trivial⟩ (fun w1 hw => Pm.tuckEnd (s := ⟨Aq, cq, p⟩) (P := [.row (.slice A71 ((pp ++ [(⟨Aq, cq, p⟩ : Sg Int)]).length) c71) 96 1 ((pp ++ [(⟨Aq, cq, p⟩ : Sg Int)]).length) (flat sgc (pp ++ [(⟨Aq, cq, p⟩ : Sg Int)])), .blk g3 92 [.int .i64 tr.v, .int .u32 tr.dst, .int .i64 tr.proto, .slice A71 ((pp ++ [(⟨Aq, cq, p⟩ : Sg Int)]).length) c71, .int .u32 la], .blk g2 92 [.int .i64 0, .int .u32 0, .int .i64 0, .slice none 0 0, .int .u32 0], .abs cb (fun w => Cod w cb)]) (hw.sel (.cons _ (.cons_cons _ (.cons_cons _ (.cons_cons _ (.cons_cons _ (.cons_cons _ (List.Sublist.refl _)))))))))
 refine zET (zd (zx (zX (zX (zM (zT (zSG (TL.v (gV 1 (.agg #[.int .i64 tr.v, .int .u32 tr.dst, .int .i64 tr.proto, .slice Ap pp.length cp, .int .u32 la]) dntag119 dntsz119) ?_))))))))
 refine TL.pstore (k := 2) (vs := [.int .i64 tr.v, .int .u32 tr.dst, .int .i64 tr.proto, .slice Ap pp.length cp, .int .u32 la]) rfl rfl rfl rfl rfl rfl rfl dntsz119 dntone_i64u32i64su32 (by show 5 ≤ 5; decide) rfl ?_
 refine zET (zr ?_)
 exact pm_ret_cell (k := 2) Tryz.results63 rfl rfl Tryz.underlying92 rfl rfl (fun w1 hw => ⟨⟨⟨tr.v, tr.dst, tr.proto, ⟨Ap, cp, pp⟩, la⟩, ⟨htr, hla, lg + 1, by omega, by omega, by show 1 ≤ pp.length; omega, by show pp.length ≤ 3; omega, hpw⟩⟩, rfl, Pm.codr (netP ⟨Ap, cp, pp⟩) (Pm.netOut (p := ⟨Ap, cp, pp⟩) (hw.sel (.cons_cons _ (.cons _ (.cons _ (.cons_cons _ (List.Sublist.refl _))))))) (netP_noAbs _)⟩)
set_option maxRecDepth 20000
def RuG (u : Ru) : Prop := (1 ≤ u.los ∧ u.los ≤ 3) ∧ (1 ≤ u.gro ∧ u.gro ≤ 6) ∧ 1 ≤ u.prb ∧ u.prb ≤ 2
theorem adrzv28 (w : World) : (zeroValue 28).run Tryz.prog w = .ok (.agg #[.int .i64 0, .int .i64 0, .int .i64 0]) w := rfl
theorem adrbld28_57310 (a0_0 : Int) (a2_0 : Int) (a1_0 : Int) (w : World) : (Instr.build 28 #[(0, .int .i64 a0_0), (2, .int .i64 a2_0), (1, .int .i64 a1_0)]).run Tryz.prog w = .ok (.agg #[.int .i64 a0_0, .int .i64 a1_0, .int .i64 a2_0]) w := by kernel_rfl
theorem adrone_i64i64i64 {a0 : Int} {a1 : Int} {a2 : Int} : ∀ u ∈ [(.int .i64 a0 : Value), .int .i64 a1, .int .i64 a2], u.oneCell' = true := by
 intro u hu
 simp only [List.mem_cons, List.not_mem_nil, or_false] at hu
 rcases hu with rfl | rfl | rfl <;> rfl
theorem drule_cod (cb : Nat) (w : World) (hC : Cod w cb) :
  Calls Tryz.prog 20 #[.pointer (some ⟨cb, 0, none⟩)] w fun e w' => ∃ x : {u : Ru // RuG u}, e = .returned (.agg x.1.cells.toArray) ∧ Codr (fun w => Cod w cb) cb w ([]) w' := by
 refine begin_ (vs := [.pointer (some ⟨cb, 0, none⟩)]) (I := Pm ⟨w, cb⟩ (.abs cb (fun w => Cod w cb) :: oths cb w)) Tryz.func20 rfl rfl rfl ?_ (Pm.codes hC (cod_cells hC) (cod_stab cb))
 refine zSG ?_
 refine TL.pnew rfl rfl rfl (exec_alloc (cs := [.int .i64 0, .int .i64 0, .int .i64 0]) rfl adrzv28 rfl) (fun g2 => ?_)
 refine zET (zSG (TL.mv ?_))
 refine TL.pcallCod (k := 1) (α := {q9 : Nat // q9 ≤ 65535 ∧ (1 ≤ (3 : Int) → (q9 : Int) < 3)}) (fun q9 => .int .i64 ((q9.1 : Nat) : Int)) (fun q9 => []) rfl rfl rfl rfl rfl Tryz.func21 (by decide) rfl rfl (fun w1 hw hC1 => next_cod cb w1 3 hC1) ?_
 rintro ⟨a0, ha01, ha02⟩
 dsimp only [List.cons_append, List.nil_append]
 refine TL.v (gD ((1 + a0 : Nat) : Int)) ?_
 refine TL.mv ?_
 refine TL.pcallCod (k := 1) (α := {q9 : Nat // q9 ≤ 65535 ∧ (1 ≤ (2 : Int) → (q9 : Int) < 2)}) (fun q9 => .int .i64 ((q9.1 : Nat) : Int)) (fun q9 => []) rfl rfl rfl rfl rfl Tryz.func21 (by decide) rfl rfl (fun w1 hw hC1 => next_cod cb w1 2 hC1) ?_
 rintro ⟨a1, ha11, ha12⟩
 dsimp only [List.cons_append, List.nil_append]
 refine TL.v (gD ((1 + a1 : Nat) : Int)) ?_
 refine TL.mv ?_
 refine TL.pcallCod (k := 1) (α := {q9 : Nat // q9 ≤ 65535 ∧ (1 ≤ (6 : Int) → (q9 : Int) < 6)}) (fun q9 => .int .i64 ((q9.1 : Nat) : Int)) (fun q9 => []) rfl rfl rfl rfl rfl Tryz.func21 (by decide) rfl rfl (fun w1 hw hC1 => next_cod cb w1 6 hC1) ?_
 rintro ⟨a2, ha21, ha22⟩
 dsimp only [List.cons_append, List.nil_append]
 refine TL.v (gD ((1 + a2 : Nat) : Int)) ?_
 refine TL.val rfl rfl rfl (gives_build (v := .agg #[.int .i64 ((1 + a0 : Nat) : Int), .int .i64 ((1 + a2 : Nat) : Int), .int .i64 ((1 + a1 : Nat) : Int)]) rfl rfl (fun w => adrbld28_57310 _ _ _ w)) ?_
 refine TL.pstore (k := 0) (vs := [.int .i64 ((1 + a0 : Nat) : Int), .int .i64 ((1 + a2 : Nat) : Int), .int .i64 ((1 + a1 : Nat) : Int)]) rfl rfl rfl rfl rfl rfl rfl aprsz28 adrone_i64i64i64 (by show 3 ≤ 3; decide) rfl ?_
 refine zET (zr ?_)
 exact pm_ret_cell (k := 0) Tryz.results20 rfl rfl Tryz.underlying28 rfl rfl (fun w1 hw => ⟨⟨⟨((1 + a0 : Nat) : Int), ((1 + a2 : Nat) : Int), ((1 + a1 : Nat) : Int)⟩, by unfold RuG; dsimp only; omega⟩, rfl, Pm.codr [] (hw.sel (.cons _ (.cons_cons _ (List.Sublist.refl _)))) rfl⟩)
open Go.RowKit Go.Shelf
theorem rpk_len (x : Rp) : x.keys.length = 8 := rfl
theorem rpk_inj {x y : Rp} (h : x.keys = y.keys) : x = y := by
  cases x; cases y
  simp only [Rp.keys, List.cons.injEq, and_true] at h
  simp only [Rp.mk.injEq]
  exact h
def Rp.cand (p : Rp) : Rp := { p with at_ := 0 }
def Rp.when (p : Rp) (t : Int) : Rp := { p with at_ := t }
theorem like_iff {p q : Rp} : p.when q.at_ = q ↔ p.cand = q.cand := by
  cases p; cases q; simp [Rp.when, Rp.cand]
theorem cand_eq {p q : Rp} (h : p.cand = q.cand) (ha : p.at_ = q.at_) : p = q := by
  rw [← like_iff, ← ha] at h; exact h
def IsMin (P S : Rp → Prop) (out : List Rp) : Prop := AscK Rp.keys out ∧ ∀ p, p ∈ out ↔ S p ∧ P p ∧ ∀ q, S q → q.cand = p.cand → P q → p.at_ ≤ q.at_
section
variable {P S S' : Rp → Prop} {out o1 : List Rp} {p : Rp}
theorem IsMin.eq {a b : List Rp} (h : IsMin P S a) (h' : IsMin P S b) : a = b := ascK_eq rpk_len h.1 h'.1 fun x => by rw [h.2, h'.2]
theorem IsMin.congr (h : IsMin P S out) (hS : ∀ p, S p ↔ S' p) : IsMin P S' out := by
  have : S = S' := funext fun p => propext (hS p)
  rw [← this]; exact h
theorem IsMin.nil (hS : ∀ p, ¬ S p) : IsMin P S [] := ⟨List.Pairwise.nil, fun p => ⟨fun h => absurd h List.not_mem_nil, fun h => absurd h.1 (hS p)⟩⟩
theorem least {R : Rp → Prop} (h0 : ∀ p, R p → 0 ≤ p.at_) : ∀ (n : Nat) {q : Rp}, R q → q.at_ ≤ n → ∃ m, R m ∧ ∀ x, R x → m.at_ ≤ x.at_
  | 0, q, hq, hn => ⟨q, hq, fun x hx => by have := h0 x hx; have := h0 q hq; omega⟩
  | n + 1, q, hq, hn => by
    by_cases h : ∃ x, R x ∧ x.at_ ≤ n
    · obtain ⟨x, hx, h1⟩ := h
      exact least h0 n hx h1
    · exact ⟨q, hq, fun x hx => by
        have : ¬ x.at_ ≤ n := fun h1 => h ⟨x, hx, h1⟩
        omega⟩
theorem IsMin.ex (h : IsMin P S out) (h0 : ∀ p, P p → 0 ≤ p.at_) {q : Rp} (hS : S q) (hP : P q) : ∃ m ∈ out, m.cand = q.cand ∧ m.at_ ≤ q.at_ := by
  obtain ⟨m, ⟨h1, h2, h3⟩, h4⟩ := least (R := fun x => S x ∧ P x ∧ x.cand = q.cand) (fun x hx => h0 x hx.2.1) q.at_.toNat ⟨hS, hP, rfl⟩ (by have := h0 q hP; omega)
  exact ⟨m, (h.2 m).2 ⟨h1, h2, fun x hx hc hp => h4 x ⟨hx, hp, hc.trans h3⟩⟩, h3, h4 q ⟨hS, hP, rfl⟩⟩
theorem IsMin.skip (h : IsMin P S out) (hn : P p → ∃ q ∈ out, q.cand = p.cand ∧ q.at_ ≤ p.at_) : IsMin P (fun x => S x ∨ x = p) out := by
  refine ⟨h.1, fun x => ?_⟩
  rw [h.2]
  constructor
  · rintro ⟨h1, h2, h3⟩
    refine ⟨.inl h1, h2, fun q hq hc hP => ?_⟩
    rcases hq with hq | rfl
    · exact h3 q hq hc hP
    · obtain ⟨m, hm, hmc, hma⟩ := hn hP
      obtain ⟨m1, m2, m3⟩ := (h.2 m).1 hm
      have := h3 m m1 (hmc.trans hc) m2
      omega
  · rintro ⟨h1, h2, h3⟩
    rcases h1 with h1 | rfl
    · exact ⟨h1, h2, fun q hq => h3 q (.inl hq)⟩
    · obtain ⟨m, hm, hmc, hma⟩ := hn h2
      obtain ⟨m1, m2, m3⟩ := (h.2 m).1 hm
      have := h3 m (.inl m1) hmc m2
      have e : m = x := cand_eq hmc (by omega)
      subst e
      exact ⟨m1, m2, m3⟩
theorem IsMin.put (h : IsMin P S out) (h0 : ∀ p, P p → 0 ≤ p.at_) (hP : P p) (hn : ∀ q ∈ out, q.cand = p.cand → p.at_ < q.at_) (ho : AscK Rp.keys o1) (hm : ∀ x, x ∈ o1 ↔ x ∈ out ∧ x.cand ≠ p.cand) {k : Nat} (h1 : ∀ y ∈ o1.take k, lexI y.keys p.keys < 0) (h2 : ∀ y ∈ o1.drop k, lexI p.keys y.keys < 0) : IsMin P (fun x => S x ∨ x = p) (o1.take k ++ p :: o1.drop k) := by
  refine ⟨ascK_put rpk_len ho h1 h2, fun x => ?_⟩
  rw [mem_put, hm, h.2]
  constructor
  · rintro (⟨⟨a1, a2, a3⟩, a4⟩ | rfl)
    · refine ⟨.inl a1, a2, fun q hq hc hP => ?_⟩
      rcases hq with hq | rfl
      · exact a3 q hq hc hP
      · exact absurd hc.symm a4
    · refine ⟨.inr rfl, hP, fun q hq hc hQ => ?_⟩
      rcases hq with hq | rfl
      · obtain ⟨m, hm1, hmc, hma⟩ := h.ex h0 hq hQ
        have := hn m hm1 (hmc.trans hc)
        omega
      · exact Int.le_refl _
  · rintro ⟨a1, a2, a3⟩
    rcases a1 with a1 | rfl
    · by_cases hc : x.cand = p.cand
      · have b1 := a3 p (.inr rfl) hc.symm hP
        have hx : x ∈ out := (h.2 x).2 ⟨a1, a2, fun q hq => a3 q (.inl hq)⟩
        have := hn x hx hc
        omega
      · exact .inl ⟨⟨a1, a2, fun q hq => a3 q (.inl hq)⟩, hc⟩
    · exact .inr rfl
end
open Go.RowKit Go.Shelf
def IsTm (l : List Rs) (p : Rp) : Prop := ∃ y, IsSt l p.trc p.flow y ∧ ∃ r ∈ y, r.at_ = p.at_
def IsFnd (es : List En) (l : List Rs) (u : Ru) (out : List Rp) : Prop := IsMin (PrP es l u) (IsTm l) out
theorem IsFnd.eq {es : List En} {l : List Rs} {u : Ru} {a b : List Rp} (h : IsFnd es l u a) (h' : IsFnd es l u b) : a = b := IsMin.eq h h'
theorem PrP.at0 {es : List En} {l : List Rs} {u : Ru} {p : Rp} (h : PrP es l u p) : 0 ≤ p.at_ := by
  have := h.2.1
  unfold vldRp at this
  simp only [Bool.and_eq_true, decide_eq_true_eq] at this
  omega
def CandOf (es : List En) (r : Rs) (p : Rp) : Prop := p.trc = trcR r ∧ p.flow = r.flow ∧ ((p.kind = 1 ∧ p.ttl = 0 ∧ p.prov = 0) ∨ (p.kind = 3 ∧ p.ttl = r.ttl ∧ p.prov = 0) ∨ (p.kind = 2 ∧ r.ans = true ∧ p.ttl = r.ttl ∧ p.prov = provR es r.src r.back))
theorem IsSt.mem {l y : List Rs} {t : Trc} {flow : Int} (h : IsSt l t flow y) (r : Rs) : r ∈ y ↔ r ∈ l ∧ trcR r = t ∧ usbRs r = true ∧ r.flow = flow := by
  obtain ⟨x, ⟨o, h1, rfl⟩, rfl⟩ := h
  rw [List.mem_filter, List.mem_filter, h1.2]
  simp only [Bool.and_eq_true, decide_eq_true_eq, usbRs]
  exact ⟨fun ⟨⟨⟨a, b⟩, c⟩, d, e⟩ => ⟨a, c, d, e⟩, fun ⟨a, c, d, e⟩ => ⟨⟨⟨a, d.2⟩, c⟩, d, e⟩⟩
theorem CandOf.like {es : List En} {r : Rs} {p q : Rp} (h : CandOf es r p) (hc : q.cand = p.cand) : CandOf es r q := by
  have h2 := (like_iff (p := p) (q := q)).2 hc.symm
  rw [← h2]
  exact h
def PrS (es : List En) (y : List Rs) (u : Ru) (p : Rp) : Prop :=
  (p.kind = 1 ∧ p.ttl = 0 ∧ p.prov = 0 ∧ bhF y u.los p.at_ = true) ∨
  (p.kind = 3 ∧ p.prov = 0 ∧ CgF (eaL (atL y p.ttl) p.at_) (laL (atL y p.ttl) p.at_) u.prb u.gro) ∨
  (p.kind = 2 ∧ p.prov ≠ 0 ∧ DtF (fun r : Rs => provR es r.src r.back) (atL y p.ttl) p.prov p.at_)
theorem lookR_mem (a t : Int) : ∀ (es : List En) (q : En × Bool), (es.foldl (stepL a t) q).1 ∈ es ∨ (es.foldl (stepL a t) q) = q
  | [], q => .inr rfl
  | e :: es, q => by
    rw [List.foldl_cons]
    rcases lookR_mem a t es (stepL a t q e) with h | h
    · exact .inl (List.mem_cons_of_mem _ h)
    · rw [h]
      unfold stepL
      split
      · exact .inl List.mem_cons_self
      · exact .inr rfl
theorem provR_range {es : List En} (a t : Int) : 0 ≤ provR es a t ∧ provR es a t ≤ 2147483647 := by
  unfold provR lookV
  split
  · rename_i hv
    rcases lookR_mem a t es (En.zero, false) with h | h
    · unfold lookR
      obtain ⟨i, hi⟩ := List.getElem?_of_mem h
      have hv2 := hv
      simp only [validR, Bool.and_eq_true, decide_eq_true_eq, List.all_eq_true, List.mem_range] at hv2
      have h3 := hv2.2 i (List.getElem?_eq_some_iff.1 hi).1
      unfold okAt at h3
      rw [hi] at h3
      simp only [validE, Bool.and_eq_true, decide_eq_true_eq] at h3
      omega
    · unfold lookR; rw [h]; exact ⟨by decide, by decide⟩
  · exact ⟨by decide, by decide⟩
theorem chk_probe {r : Rs} (h : chkR r = 0) : chkR ⟨r.v, 0, 0, 0, r.dst, r.proto, r.flow, 1, false, false, 0, 0, 0, 0, 0, 0, 0⟩ = 0 := by
  have hr : r.inRange := Decidable.by_contra fun h1 => by have := chk_range h1; omega
  unfold Rs.inRange at hr
  unfold chkR at h ⊢
  rw [if_neg (by rw [Decidable.not_not]; unfold Rs.inRange; omega)] at h
  split at h
  · cases h
  · rename_i hp
    rw [if_neg (by rw [Decidable.not_not]; unfold Rs.inRange; dsimp only; omega), if_neg (by dsimp only; exact hp)]
    simp [Rs.noAns]
theorem vld_probe {r : Rs} {p : Rp} (h : vldRs r = true) (ht : p.trc = trcR r) (hf : p.flow = r.flow) : vldRs p.rs = true := by
  unfold Rp.trc trcR at ht
  injection ht with h1 h2 h3
  unfold vldRs at h ⊢
  simp only [Bool.and_eq_true, decide_eq_true_eq] at h ⊢
  unfold Rp.rs
  rw [h1, h2, h3, hf]
  exact ⟨⟨chk_probe h.1.1, h.1.2⟩, rfl⟩
theorem prS_iff {es : List En} {l y : List Rs} {u : Ru} {p : Rp} (hu : vldRu u = true) (he : validR es = true) (hy : IsSt l p.trc p.flow y) {r : Rs} (hr : r ∈ y) (ha : r.at_ = p.at_) : PrS es y u p ↔ PrP es l u p := by
  have hm := (hy.mem r).1 hr
  have hv : vldRs r = true := by have := hm.2.2.1; unfold usbRs at this; simp only [Bool.and_eq_true] at this; exact this.2
  have hin := vld_in hv
  unfold Rs.inRange at hin
  have hprb : 1 ≤ u.prb := by unfold vldRu at hu; have := of_decide_eq_true hu; omega
  have hvp := vld_probe hv hm.2.1.symm hm.2.2.2.symm
  have httl : ∀ r ∈ y, 1 ≤ r.ttl ∧ r.ttl ≤ 255 := fun r hr => by
    have h1 := ((hy.mem r).1 hr).2.2.1
    unfold usbRs at h1
    simp only [Bool.and_eq_true] at h1
    have := vld_in h1.2
    unfold Rs.inRange at this
    omega
  constructor
  · rintro (⟨a1, a2, a3, a4⟩ | ⟨a1, a2, a3⟩ | ⟨a1, a2, a3⟩)
    · refine ⟨hu, ?_, he, .inl ⟨a1, y, hy, a4⟩⟩
      unfold vldRp; rw [hvp, Bool.true_and]; exact decide_eq_true (by omega)
    · refine ⟨hu, ?_, he, .inr (.inr ⟨a1, .inr ⟨y, hy, a3⟩⟩)⟩
      obtain ⟨e, h1, _⟩ := a3
      obtain ⟨s, hs, _⟩ := ea_mem h1
      have h8 := List.mem_filter.1 hs
      simp only [Bool.and_eq_true, decide_eq_true_eq] at h8
      have := httl s h8.1
      unfold vldRp; rw [hvp, Bool.true_and]; exact decide_eq_true (by omega)
    · refine ⟨hu, ?_, he, .inr (.inl ⟨a1, y, hy, a3⟩)⟩
      obtain ⟨a, ha, _, b, hb, hb1, hb2, hb3⟩ := a3
      have h8 := List.mem_filter.1 hb
      simp only [Bool.and_eq_true, decide_eq_true_eq] at h8
      have := httl b h8.1
      have h9 := provR_range (es := es) b.src b.back
      dsimp only at hb2
      rw [hb2] at h9
      unfold vldRp; rw [hvp, Bool.true_and]; exact decide_eq_true (by omega)
  · rintro ⟨_, h2, _, h4⟩
    unfold vldRp at h2
    simp only [Bool.and_eq_true, decide_eq_true_eq] at h2
    rcases h4 with ⟨a1, y', a2, a3⟩ | ⟨a1, y', a2, a3⟩ | ⟨a1, a2⟩
    · rw [← hy.eq a2] at a3; exact .inl ⟨a1, by omega, by omega, a3⟩
    · rw [← hy.eq a2] at a3; exact .inr (.inr ⟨a1, by omega, a3⟩)
    · rcases a2 with a2 | ⟨y', a2, a3⟩
      · omega
      · rw [← hy.eq a2] at a3; exact .inr (.inl ⟨a1, by omega, a3⟩)
open Go.RowKit Go.Shelf
theorem CandOf.ok {es : List En} {x : Rs} {p : Rp} (h : CandOf es x p) (hx : x.Ok) : p.Ok := by
  have h1 := h.1
  unfold Rp.trc trcR at h1
  injection h1 with a b c
  unfold Rp.Ok
  rw [b]
  exact ⟨hx.1, hx.2.1⟩
theorem IsSt.leo {l y o : List Rs} {t : Trc} {flow : Int} (h : IsSt l t flow y) (ho : IsOrd l o) : y.length ≤ o.length := by
  obtain ⟨x, ⟨o', h1, rfl⟩, rfl⟩ := h
  rw [ho.eq h1]
  exact Nat.le_trans (List.length_filter_le _ _) (List.length_filter_le _ _)
def FndOk (es : List En) (l : List Rs) (u : Ru) (out : List Rp) (z : Int) : Prop :=
  (z = 1 ∧ out = [] ∧ ¬ ((∀ r ∈ l, vldRs r = true) ∧ validR es = true ∧ vldRu u = true)) ∨
  (z = 5 ∧ out = [] ∧ ((∀ r ∈ l, vldRs r = true) ∧ validR es = true ∧ vldRu u = true) ∧ ∃ o, IsOrd l o ∧ 512 < o.length) ∨
  (z = 0 ∧ IsFnd es l u out ∧ ((∀ r ∈ l, vldRs r = true) ∧ validR es = true ∧ vldRu u = true) ∧ ∃ o, IsOrd l o ∧ o.length ≤ 512)
theorem FndOk.eq {es : List En} {l : List Rs} {u : Ru} {out out' : List Rp} {z z' : Int} (h : FndOk es l u out z) (h' : FndOk es l u out' z') : out = out' ∧ z = z' := by
  rcases h with ⟨rfl, h1, h2⟩ | ⟨rfl, h1, h2, o, h3, h4⟩ | ⟨rfl, h1, h2, o, h3, h4⟩ <;> rcases h' with ⟨rfl, g1, g2⟩ | ⟨rfl, g1, g2, o', g3, g4⟩ | ⟨rfl, g1, g2, o', g3, g4⟩
  · exact ⟨h1.trans g1.symm, rfl⟩
  · exact absurd g2 h2
  · exact absurd g2 h2
  · exact absurd h2 g2
  · exact ⟨h1.trans g1.symm, rfl⟩
  · rw [h3.eq g3] at h4; omega
  · exact absurd h2 g2
  · rw [h3.eq g3] at h4; omega
  · exact ⟨h1.eq g1, rfl⟩
section
variable {es : List En} {l o own : List Rs} {i k n : Nat} {x s : Rs} {al : List Rp} {c : Rp} {u : Ru} {out : List Rp} {P : Rp → Prop} {t : Int}
end
end Go.Proofs.YtijmpjfafpodhaaGreat
