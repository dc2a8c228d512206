/-
  A walk by rules: a row of the call's own, appended to by zeros (append of a make); operations with a guard. No program is imported.
-/
import Derived.Test.YtmbcclgnjobikaaSymHeld
namespace Go.Proofs.Ytmbcclgnjobikaa
open Go.RowKit
set_option linter.unusedVariables false
set_option linter.unusedSimpArgs false
section
variable {P : Program} (w : World)
theorem wrap_small (m : Nat) (h : m ≤ maxLen) : IntKind.i64.wrap (m : Int) = (m : Int) := by
  have : m ≤ 9223372036854775807 := by simp only [maxLen] at h; omega
  simp only [IntKind.wrap_i64]; omega
theorem run_zeros_none (t u ty e : TypeId) (i : TypeInfo) (ht : P.underlying t = some (.slice e)) (hu : P.underlying u = some (.int .i64)) (hi : P.info? e = some i) (z : Value) (hz : i.zero = some z)
    (b : Option Addr) (sLen sCap : Nat) (h : sLen ≤ sCap) (hb : b = none ∨ ∃ g cur, b = some ⟨g, 0, none⟩ ∧ w.heap[g]? = some (.cells cur e (0, 0))) :
    (Builtin.append_ #[t, u] ty #[.slice b sLen sCap, .int .i64 0]).run P w = .ok (.slice b sLen sCap) w := by
  have h0 : IntKind.i64.wrap 0 = 0 := rfl
  have h1 : ¬ ((0 : Int) > 2 ^ 48) := by decide
  cases b with
  | none => simp [Builtin.append_, run_underlying ht, run_underlying hu, sizeOf, typeInfo, zeroValue, hi, hz, h0, h1, h, go_sem]
  | some a => simp [Builtin.append_, run_underlying ht, run_underlying hu, sizeOf, typeInfo, zeroValue, hi, hz, h0, h1, h, storeCells, go_sem]
theorem run_zeros_nil (t u ty e : TypeId) (i : TypeInfo) (ht : P.underlying t = some (.slice e)) (hu : P.underlying u = some (.int .i64)) (hi : P.info? e = some i) (z : Value) (hz : i.zero = some z) (hsz : 0 < i.size)
    (m : Nat) (hm : 0 < m) (h63 : m ≤ maxLen) (h48 : m * i.bytes ≤ 140737488355328) :
    (Builtin.append_ #[t, u] ty #[.slice none 0 0, .int .i64 (m : Int)]).run P w =
      .ok (.slice (some ⟨w.heap.size, 0, none⟩) m (grownCap w m 0 e)) (w.drew.alloc (.cells (Builtin.zeroCells z.cells m ++ Builtin.zeroCells z.cells (grownCap w m 0 e - m)) e)) := by
  have hw := wrap_small m h63
  have h63' : ¬ (9223372036854775807 < (m : Int)) := by simp only [maxLen] at h63; omega
  have h2 : ((m : Int) * (i.bytes : Int)) = ((m * i.bytes : Nat) : Int) := by simp
  have h48' : ¬ (281474976710656 < (m : Int) * (i.bytes : Int)) := by rw [h2]; omega
  have h3 : ¬ (281474976710656 < Builtin.nextslicecap m 0 * i.bytes) := by rw [nextslicecap_zero hm]; omega
  have hn : m ≠ 0 := by omega
  have hs : i.size ≠ 0 := by omega
  have hneg : ¬ ((m : Int) < 0) := by omega
  have hms : m * i.size ≠ 0 := Nat.mul_ne_zero hn hs
  have has : (asInt (.int .i64 (m : Int)) : Sem Int) = pure (m : Int) := rfl
  simp [Builtin.append_, run_underlying ht, run_underlying hu, sizeOf, typeInfo, zeroValue, hi, hz, hw, hms, hn, hs, has, h63', h48', h3, hneg, Question.forced, newRow, grownCap, Builtin.firstCells]
theorem run_zeros_room (t u ty e : TypeId) (i : TypeInfo) (ht : P.underlying t = some (.slice e)) (hu : P.underlying u = some (.int .i64)) (hi : P.info? e = some i) (z : Value) (hz : i.zero = some z) (hsz : 0 < i.size) (hzs : z.cells.size = i.size) (hz1 : ∀ v ∈ (Builtin.zeroCells z.cells 1).toList, v.oneCell' = true)
    (g sLen sCap : Nat) (cur : Array Value) (hg : w.heap[g]? = some (.cells cur e (0, 0))) (m : Nat) (hm : 0 < m) (h63 : m ≤ maxLen) (h48 : m * i.bytes ≤ 140737488355328) (h1 : ∀ v ∈ (Builtin.zeroCells z.cells m).toList, v.oneCell' = true)
    (hroom : sLen + m ≤ sCap) (hfit : sLen * i.size + m * i.size ≤ cur.size) :
    (Builtin.append_ #[t, u] ty #[.slice (some ⟨g, 0, none⟩) sLen sCap, .int .i64 (m : Int)]).run P w =
      .ok (.slice (some ⟨g, 0, none⟩) (sLen + m) sCap) (w.setRow g (cur.toList.take (sLen * i.size) ++ (Builtin.zeroCells z.cells m).toList ++ cur.toList.drop (sLen * i.size + (Builtin.zeroCells z.cells m).toList.length)).toArray) := by
  have hw := wrap_small m h63
  have h2 : ((m : Int) * (i.bytes : Int)) = ((m * i.bytes : Nat) : Int) := by simp
  have h48' : ¬ (281474976710656 < (m : Int) * (i.bytes : Int)) := by rw [h2]; omega
  have hn : m ≠ 0 := by omega
  have hs : i.size ≠ 0 := by omega
  have hneg : ¬ ((m : Int) < 0) := by omega
  have hms : m * i.size ≠ 0 := Nat.mul_ne_zero hn hs
  have has : (asInt (.int .i64 (m : Int)) : Sem Int) = pure (m : Int) := rfl
  have hst := run_storeCells_at P g (sLen * i.size) e (Builtin.zeroCells z.cells m).toList 0 cur w hg (by simp [size_zeroCells, hzs]; omega) h1
  simp only [Nat.add_zero] at hst
  simp [Builtin.append_, run_underlying ht, run_underlying hu, sizeOf, typeInfo, zeroValue, hi, hz, hw, hms, hn, hs, has, h48', hneg, hroom, Addr.add_lit, hst]
theorem run_zeros_grow (t u ty e : TypeId) (i : TypeInfo) (ht : P.underlying t = some (.slice e)) (hu : P.underlying u = some (.int .i64)) (hi : P.info? e = some i) (z : Value) (hz : i.zero = some z) (hsz : 0 < i.size)
    (b : Addr) (sLen sCap : Nat) (olds : List Value) (hlo : olds.length = sLen * i.size) (holds : ∀ j v, olds[j]? = some v → w.cell? (b.add j) = some v) (m : Nat) (hm : 0 < m) (h63 : sLen + m ≤ maxLen) (h48 : (sLen + m) * i.bytes ≤ 140737488355328) (hg : sCap < sLen + m) :
    (Builtin.append_ #[t, u] ty #[.slice (some b) sLen sCap, .int .i64 (m : Int)]).run P w =
      .ok (.slice (some ⟨w.heap.size, 0, none⟩) (sLen + m) (grownCap w (sLen + m) sCap e)) (w.drew.alloc (.cells (olds.toArray ++ Builtin.zeroCells z.cells m ++ Builtin.zeroCells z.cells (grownCap w (sLen + m) sCap e - (sLen + m))) e)) := by
  have hw := wrap_small m (by omega)
  have h63' : ¬ (9223372036854775807 < ((sLen : Int) + (m : Int))) := by simp only [maxLen] at h63; omega
  have h2 : ((m : Int) * (i.bytes : Int)) = ((m * i.bytes : Nat) : Int) := by simp
  have hle : m * i.bytes ≤ (sLen + m) * i.bytes := Nat.mul_le_mul_right _ (by omega)
  have h48' : ¬ (281474976710656 < (m : Int) * (i.bytes : Int)) := by rw [h2]; omega
  have h3 : ¬ (281474976710656 < Builtin.nextslicecap (sLen + m) sCap * i.bytes) := by
    have := growslice_fits (bytes := i.bytes) (old := sCap) (need := sLen + m) (by omega) h48
    omega
  have hn : m ≠ 0 := by omega
  have hs : i.size ≠ 0 := by omega
  have hneg : ¬ ((m : Int) < 0) := by omega
  have hms : m * i.size ≠ 0 := Nat.mul_ne_zero hn hs
  have has : (asInt (.int .i64 (m : Int)) : Sem Int) = pure (m : Int) := rfl
  have hr : ¬ (sLen + m ≤ sCap) := by omega
  have hfo := run_firstCells_some (P := P) w.drew i.size sLen b sLen sCap olds hlo (by simpa using holds)
  simp [Builtin.append_, run_underlying ht, run_underlying hu, sizeOf, typeInfo, zeroValue, hi, hz, hw, hms, hn, hs, has, h63', h48', h3, hneg, hr, hfo, Question.forced, newRow, grownCap]

theorem run_zeros_own (base : Nat) (t u ty e : TypeId) (i : TypeInfo) (z : Value) (size bytes : Nat) (ht : P.underlying t = some (.slice e)) (hu : P.underlying u = some (.int .i64)) (hi : P.info? e = some i) (hz : i.zero = some z)
    (hsize : i.size = size) (hby : i.bytes = bytes) (hzs : z.cells.size = size) (hsz : 0 < size) (hz1 : ∀ k, ∀ v ∈ (Builtin.zeroCells z.cells k).toList, v.oneCell' = true)
    (v : Value) (n : Nat) (xs : List Value) (hown : w.ownsRow base e size v n xs) (m : Nat)
    (h63 : n + m ≤ maxLen) (hbytes : (n + m) * bytes ≤ 140737488355328) (hbase : base ≤ w.heap.size) :
    ∃ v' w', (Builtin.append_ #[t, u] ty #[v, .int .i64 (m : Int)]).run P w = .ok v' w' ∧ w'.ownsRow base e size v' (n + m) (xs ++ (Builtin.zeroCells z.cells m).toList) ∧ w.grownBy w' v.ownBlock ∧
      (v'.ownBlock = v.ownBlock ∨ v'.ownBlock = some w.heap.size) := by
  subst hsize
  subst hby
  have hl : (Builtin.zeroCells z.cells m).toList.length = m * i.size := by simp [size_zeroCells, hzs]
  have hlen : (xs ++ (Builtin.zeroCells z.cells m).toList).length = (n + m) * i.size := by rw [List.length_append, hown.1, hl, Nat.add_mul]
  have hmb : m * i.bytes ≤ (n + m) * i.bytes := Nat.mul_le_mul_right _ (by omega)
  have grown : ∀ (old : Nat), old < n + m → ∀ (row : Option Nat),
      (w.drew.alloc (.cells (xs.toArray ++ Builtin.zeroCells z.cells m ++ Builtin.zeroCells z.cells (grownCap w (n + m) old e - (n + m))) e)).ownsRow base e i.size
        (.slice (some ⟨w.heap.size, 0, none⟩) (n + m) (grownCap w (n + m) old e)) (n + m) (xs ++ (Builtin.zeroCells z.cells m).toList) ∧
      w.grownBy (w.drew.alloc (.cells (xs.toArray ++ Builtin.zeroCells z.cells m ++ Builtin.zeroCells z.cells (grownCap w (n + m) old e - (n + m))) e)) row := by
    intro old ho row
    have hge := grownCap_ge w (n + m) old e
    have hcm : grownCap w (n + m) old e ≤ maxLen := grownCap_le_maxLen w (n + m) old e h63
    refine ⟨⟨hlen, .inr ⟨w.heap.size, _, _, rfl, hbase, heap_alloc_new w.drew _, hge, hcm, ?_, ?_⟩⟩, ⟨rfl, rfl, rfl, by simp, fun k hk _ => Below.heap_alloc w.drew _ k hk⟩⟩
    · simp only [Array.size_append, List.size_toArray, size_zeroCells, hzs, hown.1, ← Nat.add_mul]
      congr 1
      omega
    · simp only [Array.toList_append, List.append_assoc]
      rw [← List.append_assoc, ← hlen]
      exact List.take_left
  rcases hown.2 with ⟨rfl, rfl⟩ | ⟨g, cap, cur, rfl, hbg, hg, hnc, hcm, hcs, htake⟩
  · have hx : xs = [] := List.eq_nil_of_length_eq_zero (by simpa using hown.1)
    subst hx
    by_cases hm : m = 0
    · subst hm
      refine ⟨.slice none 0 0, w, run_zeros_none w t u ty e i ht hu hi z hz none 0 0 (Nat.le_refl _) (.inl rfl), ?_, World.grownBy.refl w _, .inl rfl⟩
      have : (Builtin.zeroCells z.cells 0).toList = [] := by simp [Builtin.zeroCells]
      rw [this]
      exact World.ownsRow_nil w base e i.size
    · have hr := run_zeros_nil w t u ty e i ht hu hi z hz hsz m (by omega) (by omega) (by omega)
      have hgr := grown 0 (by omega) (Value.ownBlock (.slice none 0 0))
      simp only [Nat.zero_add, List.nil_append, Array.empty_append] at hgr ⊢
      exact ⟨_, _, hr, hgr.1, hgr.2, .inr rfl⟩
  · by_cases hm : m = 0
    · subst hm
      refine ⟨_, w, run_zeros_none w t u ty e i ht hu hi z hz _ n cap hnc (.inr ⟨g, cur, rfl, hg⟩), ?_, World.grownBy.refl w _, .inl rfl⟩
      have : (Builtin.zeroCells z.cells 0).toList = [] := by simp [Builtin.zeroCells]
      rw [this, List.append_nil]
      exact hown
    · by_cases hroom : n + m ≤ cap
      · have hfit : n * i.size + m * i.size ≤ cur.size := by rw [hcs, ← Nat.add_mul]; exact Nat.mul_le_mul_right _ hroom
        have hr := run_zeros_room w t u ty e i ht hu hi z hz hsz hzs (hz1 1) g n cap cur hg m (by omega) (by omega) (by omega) (hz1 m) hroom hfit
        refine ⟨_, _, hr, ⟨hlen, .inr ⟨g, cap, _, rfl, hbg, setRow_heap w g cur _ e _ hg, hroom, hcm, ?_, ?_⟩⟩, ⟨rfl, rfl, rfl, by simp, fun k _ hk => setRow_other w g k _ (fun e => hk (by simp [Value.ownBlock, e]))⟩, .inl rfl⟩
        · simp only [List.size_toArray, List.length_append, List.length_take, List.length_drop, Array.length_toList, hl]
          omega
        · rw [htake, ← hlen]
          exact List.take_left
      · have holds : ∀ j u, xs[j]? = some u → w.cell? ((⟨g, 0, none⟩ : Addr).add j) = some u := hown.cells (g := g) rfl
        have hr := run_zeros_grow w t u ty e i ht hu hi z hz hsz ⟨g, 0, none⟩ n cap xs hown.1 holds m (by omega) h63 hbytes (by omega)
        have hgr := grown cap (by omega) (Value.ownBlock (.slice (some ⟨g, 0, none⟩) n cap))
        exact ⟨_, _, hr, hgr.1, hgr.2, .inr rfl⟩
end
section
variable {P : Program} {N : Fr} {Q : Exit → Act → World → Prop} {E : Env} {w0 : Base} {L : List Pc} {ops : Array Oper} {l : List Oper} {o : Oper} {I : World → Prop}
/-- append of a make to row number k -/
theorem TL.zeros {d k : Nat} {s x : Operand} {t u e : TypeId} {size bytes n c m : Nat} {A0 : Option Addr} {olds zs : List Value} {z : Value} (hg : o.guard = none) (hd : o.dst = some d) (hN : Nat.blt d N.n = true)
    (ho : o.op = .call { callee := .builtin .append, args := #[s, x], argTypes := #[t, u] }) (hE : Elem P t e size bytes) (hu : P.underlying u = some (.int .i64)) (hs : ev E s = some (.slice A0 n c)) (hx : ev E x = some (.int .i64 (m : Int)))
    (hk : L[k]? = some (.row (.slice A0 n c) e size n olds)) (hzv : (P.info? e).map (·.zero) = some (some z)) (hzs : (Builtin.zeroCells z.cells m).toList = zs) (h1 : ∀ k, ∀ u ∈ (Builtin.zeroCells z.cells k).toList, u.oneCell' = true) (hlim : (n + m) * bytes ≤ 140737488355328) (M : Nat) (hM : M = n + m)
    (h : ∀ A' c', M ≤ c' → c' ≤ maxLen → TL P N ops Q l ((d, .slice A' M c') :: E) (Pm w0 (L.set k (.row (.slice A' M c') e size M (olds ++ zs))))) : TL P N ops Q (o :: l) E (Pm w0 L) := by
  subst hM hzs
  refine TL.run (α := { p : Option Addr × Nat // n + m ≤ p.2 ∧ p.2 ≤ maxLen }) (r := fun p => .slice p.1.1 (n + m) p.1.2) (I' := fun p => Pm w0 (L.set k (.row (.slice p.1.1 (n + m) p.1.2) e size (n + m) (olds ++ (Builtin.zeroCells z.cells m).toList)))) hg hd hN (fun a w ha hw => ?_) (fun p => h p.1.1 p.1.2 p.2.1 p.2.2)
  obtain ⟨i, z', hi, hz, hsz, hby, hzs⟩ := hE.info
  have hzz : z' = z := by
    rw [hi] at hzv
    simp only [Option.map_some, Option.some.injEq] at hzv
    rw [hz] at hzv
    injection hzv
  subst hzz
  have hmx : n + m ≤ maxLen := by
    have : n + m ≤ (n + m) * bytes := Nat.le_mul_of_pos_right _ hE.big
    unfold maxLen; omega
  obtain ⟨v', w', hrun, hown', hgr, hkey⟩ := run_zeros_own w w0.b t u o.type e i z' size bytes hE.und hu hi hz hsz hby hzs hE.pos h1 _ n olds (hw.at_ hk) m hmx hlim hw.base
  obtain ⟨A', c', rfl, hc1, hc2⟩ := own_shape hown'
  refine ⟨⟨(A', c'), hc1, hc2⟩, w', ?_, hw.turn hk hgr hown' (fun g hg => ?_) (fun k o e => ?_)⟩
  · unfold execOp; rw [ho]
    simp only [resolve, invoke, builtin, Sem.run_bind, Sem.run_pure, Result.andThen_ok, List.map_toArray, List.map_cons, List.map_nil, ha.eval hs, ha.eval hx, hrun]
  · rcases hkey with hkey | hkey
    · exact .inl (hkey.symm.trans hg)
    · right
      have : (Value.slice A' (n + m) c').ownBlock = some g := hg
      rw [hkey] at this
      injection this with this
      omega
  · cases e
/-! ### Operations with a guard -/
/-- what the guarding operation has yielded -/
theorem yielded_of {a : Act} (ha : EnvOk N E a) {j d : Nat} {b : Bool} (hd : (ops[j]?).bind (·.dst) = some d) (hE : look E d = some (.bool b)) : yielded ops a.tmps j = some b := by
  have := ha.slot d _ hE
  simp [yielded, hd, this]
theorem wanted_of {a : Act} (ha : EnvOk N E a) {j d : Nat} {b b' : Bool} (hg : o.guard = some (j, b')) (hd : (ops[j]?).bind (·.dst) = some d) (hE : look E d = some (.bool b)) : Region.wanted o (yielded ops a.tmps) = (b == b') := by
  have := yielded_of ha hd hE
  unfold Region.wanted
  rw [hg]
  simp [this]
/-- the guard lets the operation be carried out -/
theorem TL.on {j d : Nat} {b : Bool} (hg : o.guard = some (j, b)) (hd : (ops[j]?).bind (·.dst) = some d) (hE : look E d = some (.bool b)) (h : TL P N ops Q ({ o with guard := none } :: l) E I) : TL P N ops Q (o :: l) E I := fun a w ha hw => by
  have hw1 := wanted_of ha hg hd hE
  have := h a w ha hw
  unfold wpList at this ⊢
  rw [if_pos (by simp [Region.wanted])] at this
  rw [if_pos (by simp [hw1])]
  exact this
/-- the guard lets the operation be left out -/
theorem TL.off {j d t : Nat} {b b' : Bool} (hg : o.guard = some (j, b')) (hd : (ops[j]?).bind (·.dst) = some d) (hE : look E d = some (.bool b)) (hne : (b == b') = false) (ht : o.dst = some t) (hN : Nat.blt t N.n = true) (h : TL P N ops Q l ((t, undef) :: E) I) : TL P N ops Q (o :: l) E I := fun a w ha hw => by
  have hw1 := wanted_of ha hg hd hE
  unfold wpList
  rw [if_neg (by rw [hw1, hne]; decide), ht]
  exact h _ _ (ha.put t undef (by simpa [Nat.blt_eq] using hN)) hw
/-- the guarding operation was left out: so is this one -/
theorem TL.offU {j d t : Nat} {b' : Bool} (hg : o.guard = some (j, b')) (hd : (ops[j]?).bind (·.dst) = some d) (hE : look E d = some undef) (ht : o.dst = some t) (hN : Nat.blt t N.n = true) (h : TL P N ops Q l ((t, undef) :: E) I) : TL P N ops Q (o :: l) E I := fun a w ha hw => by
  have h1 : yielded ops a.tmps j = none := by
    have := ha.slot d _ hE
    simp [yielded, hd, this, undef]
  have hw1 : Region.wanted o (yielded ops a.tmps) = false := by
    unfold Region.wanted
    rw [hg]
    simp [h1]
  unfold wpList
  rw [if_neg (by rw [hw1]; decide), ht]
  exact h _ _ (ha.put t undef (by simpa [Nat.blt_eq] using hN)) hw
theorem gives_pick {c x y : Operand} {I : World → Prop} {b : Bool} {v : Value} (ho : o.op = .pick c x y) (hc : ev E c = some (.bool b)) (hv : (if b then ev E x else ev E y) = some v) : Gives P N o E I v := fun a w ha _ => by
  unfold execOp; rw [ho]
  simp only [ha.eval hc]
  cases b with
  | true =>
    have h2 : a.eval x = v := ha.eval (by simpa using hv)
    rw [← h2]; rfl
  | false =>
    have h2 : a.eval y = v := ha.eval (by simpa using hv)
    rw [← h2]; rfl
theorem gives_boolnot {xt : TypeId} {x : Operand} {I : World → Prop} {b : Bool} (ho : o.op = .unOp .not xt x) (hx : ev E x = some (.bool b)) : Gives P N o E I (.bool (!b)) := fun a w ha _ => by
  unfold execOp; rw [ho]
  simp only [ha.eval hx]
  simp [Op.unary, go_sem]
end
end Go.Proofs.Ytmbcclgnjobikaa
