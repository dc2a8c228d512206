/-
  A walk by rules: elements of a slice of structs that is read. No program is imported.
-/
import Derived.Test.YtmbcclgnjobikaaSymTop
namespace Go.Proofs.Ytmbcclgnjobikaa
open Go.RowKit
set_option linter.unusedVariables false
set_option linter.unusedSimpArgs false
/-- where the cells of a slice that is not empty lie -/
theorem Reads.ad {w : World} {B size n : Nat} {A : Option Addr} {xs : List Value} (h : Reads w B size A n xs) (hn : 0 < n) (hs : 0 < size) : ∃ b o, A = some ⟨b, o, none⟩ ∧ b < B ∧ ∀ (j : Nat) (u : Value), xs[j]? = some u → w.cell? ⟨b, o + j, none⟩ = some u := by
  obtain ⟨⟨b, o, sp⟩, hA, hb, hc⟩ := h.2 hn
  have hl : 0 < xs.length := by rw [h.1]; exact Nat.mul_pos hn hs
  have hsp : sp = none := by
    have := hc 0 xs[0] (List.getElem?_eq_getElem hl)
    simpa [Addr.add] using World.cell?_spot this
  subst hsp
  refine ⟨b, o, hA, hb, fun j u hu => ?_⟩
  have e : (⟨b, o, none⟩ : Addr).add j = ⟨b, o + j, none⟩ := by unfold Addr.add; split <;> simp_all
  rw [← e]
  exact hc j u hu
section
variable {P : Program} {N : Fr} {Q : Exit → Act → World → Prop} {E : Env} {w0 : Base} {L : List Pc} {ops : Array Oper} {l : List Oper} {o : Oper} {I : World → Prop}
theorem at_el {t e : TypeId} {size : Nat} (ht : P.underlying t = some (.slice e)) (hs : ∀ w : World, (sizeOf e).run P w = .ok size w) {A : Option Addr} {b off : Nat} (hA : A = some ⟨b, off, none⟩) (n c i : Nat) (hi : i < n) {z : Int} (hz : z = (i : Int)) (w : World) :
    (Instr.indexAt t (.slice A n c) (.int .i64 z)).run P w = .ok (.pointer (some ⟨b, off + i * size, none⟩)) w := by
  subst hA hz
  have h1 : (0 : Int) ≤ (i : Int) ∧ (i : Int) < n := by omega
  have hadd : (⟨b, off, none⟩ : Addr).add (i * size) = ⟨b, off + i * size, none⟩ := by unfold Addr.add; split <;> simp_all
  simp [Instr.indexAt, run_underlying ht, asIntOf, hs, h1, hadd, go_sem]
  try (intro hh; exact absurd hh (by omega))
theorem append_types {t u e e' : TypeId} (ht : P.underlying t = some (.slice e)) (hu : P.underlying u = some (.slice e')) (ty : TypeId) (vs : Array Value) (w : World) : (Builtin.append_ #[t, u] ty vs).run P w = (Builtin.append_ #[t, t] ty vs).run P w := by
  unfold Builtin.append_
  cases h0 : vs[0]? with
  | none => simp [h0]
  | some s =>
    cases h1 : vs[1]? with
    | none => simp [h0, h1]
    | some x =>
      cases s <;> simp [h0, h1, Sem.run_bind, run_underlying ht, run_underlying hu]
/-- append to row number k; what comes of it, by a name -/
theorem TL.appendT {d k : Nat} {s x : Operand} {t u e e' : TypeId} {size bytes n c m cc : Nat} {A0 A : Option Addr} {olds news : List Value} (hg : o.guard = none) (hd : o.dst = some d) (hN : Nat.blt d N.n = true)
    (ho : o.op = .call { callee := .builtin .append, args := #[s, x], argTypes := #[t, u] }) (hu : P.underlying u = some (.slice e')) (hE : Elem P t e size bytes) (hs : ev E s = some (.slice A0 n c)) (hx : ev E x = some (.slice A m cc))
    (hk : L[k]? = some (.row (.slice A0 n c) e size n olds)) (hr : ∀ w, Pm w0 L w → ∃ B, Reads w B size A m news) (h1 : ∀ u ∈ news, u.oneCell' = true) (hlim : (n + m) * bytes ≤ 140737488355328) (M : Nat) (hM : M = n + m) (res : List Value) (hres : olds ++ news = res)
    (h : ∀ A' c', M ≤ c' → c' ≤ maxLen → TL P N ops Q l ((d, .slice A' M c') :: E) (Pm w0 (L.set k (.row (.slice A' M c') e size M res)))) : TL P N ops Q (o :: l) E (Pm w0 L) := by
  subst hM hres
  refine TL.run (α := { p : Option Addr × Nat // n + m ≤ p.2 ∧ p.2 ≤ maxLen }) (r := fun p => .slice p.1.1 (n + m) p.1.2) (I' := fun p => Pm w0 (L.set k (.row (.slice p.1.1 (n + m) p.1.2) e size (n + m) (olds ++ news)))) hg hd hN (fun a w ha hw => ?_) (fun p => h p.1.1 p.1.2 p.2.1 p.2.2)
  obtain ⟨i, z, hi, hz, hsz, hby, hzs⟩ := hE.info
  obtain ⟨B, hrd⟩ := hr w hw
  have hmx : n + m ≤ maxLen := by
    have : n + m ≤ (n + m) * bytes := Nat.le_mul_of_pos_right _ hE.big
    unfold maxLen; omega
  obtain ⟨v', w', hrun, hown', hgr, hkey⟩ := run_append_any (P := P) w w0.b t o.type e i z size bytes hE.und hi hz hsz hby hzs hE.pos _ n olds (hw.at_ hk) B A m cc news hrd h1 hmx hlim hw.base
  rw [← append_types hE.und hu] at hrun
  obtain ⟨A', c', rfl, hc1, hc2⟩ := own_shape hown'
  refine ⟨⟨(A', c'), hc1, hc2⟩, w', ?_, hw.turn hk hgr hown' (fun g hg => ?_) (fun k o e => ?_)⟩
  · unfold execOp; rw [ho]
    simp only [resolve, invoke, builtin, Sem.run_bind, Sem.run_pure, Result.andThen_ok, List.map_toArray, List.map_cons, List.map_nil, ha.eval hs, ha.eval hx, hrun]
  · rcases hkey with hkey | hkey
    · exact .inl (hkey.symm.trans hg)
    · right
      have : (Value.slice A' (n + m) c').ownBlock = some g := hg
      rw [hkey] at this
      injection this with this
      omega
  · cases e
/-! guards in a quiet drawn region -/
theorem TQ.on {R : Act → Prop} {j d : Nat} {b : Bool} (hg : o.guard = some (j, b)) (hd : (ops[j]?).bind (·.dst) = some d) (hE : look E d = some (.bool b)) (h : TQ P N ops R ({ o with guard := none } :: l) E I) : TQ P N ops R (o :: l) E I := fun a ha => by
  have hw1 := wanted_of ha hg hd hE
  have := h a ha
  unfold wpQuiet at this ⊢
  rw [if_pos (by simp [Region.wanted])] at this
  rw [if_pos (by simp [hw1])]
  exact this
theorem TQ.off {R : Act → Prop} {j d t : Nat} {b b' : Bool} (hg : o.guard = some (j, b')) (hd : (ops[j]?).bind (·.dst) = some d) (hE : look E d = some (.bool b)) (hne : (b == b') = false) (ht : o.dst = some t) (hN : Nat.blt t N.n = true) (h : TQ P N ops R l ((t, undef) :: E) I) : TQ P N ops R (o :: l) E I := fun a ha => by
  have hw1 := wanted_of ha hg hd hE
  unfold wpQuiet
  rw [if_neg (by rw [hw1, hne]; decide), ht]
  exact h _ (ha.put t undef (by simpa [Nat.blt_eq] using hN))
theorem TQ.offU {R : Act → Prop} {j d t : Nat} {b' : Bool} (hg : o.guard = some (j, b')) (hd : (ops[j]?).bind (·.dst) = some d) (hE : look E d = some undef) (ht : o.dst = some t) (hN : Nat.blt t N.n = true) (h : TQ P N ops R l ((t, undef) :: E) I) : TQ P N ops R (o :: l) E I := fun a ha => by
  have h1 : yielded ops a.tmps j = none := by
    have := ha.slot d _ hE
    simp [yielded, hd, this, undef]
  have hw1 : Region.wanted o (yielded ops a.tmps) = false := by
    unfold Region.wanted
    rw [hg]
    simp [h1]
  unfold wpQuiet
  rw [if_neg (by rw [hw1]; decide), ht]
  exact h _ (ha.put t undef (by simpa [Nat.blt_eq] using hN))
/-- a struct that is read -/
theorem gives_loadR {t : TypeId} {x : Operand} {b off size : Nat} {cs : List Value} (ho : o.op = .load t x) (hx : ev E x = some (.pointer (some ⟨b, off, none⟩))) (hag : ∀ w : World, (isAgg t).run P w = .ok true w) (hs : ∀ w : World, (sizeOf t).run P w = .ok size w) (hlen : cs.length = size)
    (hc : ∀ w, I w → ∀ (j : Nat) (u : Value), cs[j]? = some u → w.cell? ⟨b, off + j, none⟩ = some u) : Gives P N o E I (.agg cs.toArray) := fun a w ha hw => by
  unfold execOp; rw [ho]
  simp only [ha.eval hx]
  have hl := run_loadCells_list (P := P) w ⟨b, off, none⟩ cs (fun j v hj => by
    have hadd : (⟨b, off, none⟩ : Addr).add j = ⟨b, off + j, none⟩ := by unfold Addr.add; split <;> simp_all
    rw [hadd]
    exact hc w hw j v hj)
  rw [hlen] at hl
  simp only [Instr.loadAt, Instr.sureAddr, Sem.run_bind, Sem.run_pure, Result.andThen_ok, loadVar, hag, hs, hl, if_true]
end
end Go.Proofs.Ytmbcclgnjobikaa
