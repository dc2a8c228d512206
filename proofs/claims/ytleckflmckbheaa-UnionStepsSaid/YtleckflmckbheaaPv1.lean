/-
  Texts of the proof, joined: Base, Frame, UnLaw, UnCls, UnPath, Sym, SymMem, SymPc, SymOps, SymTx, SymBin, SymHeld, SymZeros, SymStr, SymRow, SymRange, SymCod, SymChg, SymPair, SymTop, SymEl, SymMap, UnCell, SymCall.
-/
import Derived.WalkKit
import Derived.ProofKit
import Derived.OpenShut
import Derived.ShutString
import Derived.ChangeOld
import Derived.Below
import Derived.Laws.OwnMore
import Derived.Deep.AppendLies
import Derived.Deep.Draws
import Derived.Laws.Rows
import Derived.Maps.AppendAt
import Derived.RegionTactic
import Derived.OwnWalk
import Derived.Deep.QuietTactic
import Derived.BigQuiet
import Derived.Lib.Hide
import Derived.IntWalk
import Derived.Outline
import Derived.WalkSpells
import Derived.Deep.RegionWith
import Derived.Deep.RegionHeld3
import Derived.WalkLawsBesides
import Derived.Test.YtleckflmckbheaaRows
import Derived.Deep.Quiet
import Derived.StillTail
import Derived.Laws.CopyRow
import Derived.Deep.LoopGhost
import Derived.Laws.CopyOwn
import Derived.RangeFuncOwn
import Derived.OrdersHeld
import Derived.Laws.BytesArg
import Derived.Laws.Strings2
import Derived.Laws.IdiomStrings
import Derived.RangeFuncLeaves
import Derived.RangeFuncKeeps
import Derived.RangeFuncBound
import Derived.RangeFuncNested
import Derived.RangeFuncCalls
import Derived.Laws.Externs
import Derived.Laws.BytesString
import Derived.Maps.Own
import Derived.Maps.OwnSet
import Derived.Maps.Views
set_option linter.unusedVariables false
set_option linter.unusedSimpArgs false
namespace Go.Proofs.Ytleckflmckbheaa
open Go.RowKit
theorem block_of_add (a : Addr) (n : Nat) : (a.add n).block = a.block := by unfold Addr.add; split <;> rfl
theorem add_of_add (a : Addr) (i j : Nat) : (a.add i).add j = a.add (i + j) := by
 unfold Addr.add
 by_cases hi : i = 0 <;> by_cases hj : j = 0 <;> simp [hi, hj, Nat.add_assoc]
def Reads (w : World) (B size : Nat) (A : Option Addr) (n : Nat) (xs : List Value) : Prop :=
 xs.length = n * size ∧ (0 < n → ∃ ad, A = some ad ∧ ad.block < B ∧ ∀ j u, xs[j]? = some u → w.cell? (ad.add j) = some u)
section
variable {w w' : World} {B B' size n : Nat} {A : Option Addr} {xs : List Value}
theorem Reads.none_ : Reads w B size A 0 [] := ⟨by simp, fun h => absurd h (by omega)⟩
theorem Reads.at_ {k : Nat} (h : Reads w B 1 A n xs) (hk : k < n) : ∃ ad u, A = some ad ∧ ad.block < B ∧ xs[k]? = some u ∧ w.cell? (ad.add k) = some u := by
 obtain ⟨ad, e, hb, hc⟩ := h.2 (by omega)
 have hl : k < xs.length := by have := h.1; omega
 exact ⟨ad, xs[k], e, hb, List.getElem?_eq_getElem hl, hc k _ (List.getElem?_eq_getElem hl)⟩
theorem Reads.keep (h : Reads w B size A n xs) (hk : ∀ p : Addr, p.block < B → w'.cell? p = w.cell? p) : Reads w' B size A n xs :=
 ⟨h.1, fun hn => by
  obtain ⟨ad, e, hb, hc⟩ := h.2 hn
  exact ⟨ad, e, hb, fun j u hu => (hk _ (by rw [block_of_add]; exact hb)).trans (hc j u hu)⟩⟩
theorem Reads.more (h : Reads w B size A n xs) (hB : B ≤ B') : Reads w B' size A n xs :=
 ⟨h.1, fun hn => by
  obtain ⟨ad, e, hb, hc⟩ := h.2 hn
  exact ⟨ad, e, by omega, hc⟩⟩
theorem Reads.below (h : Reads w B size A n xs) (hb : Below B w w') : Reads w' B size A n xs := h.keep fun _ hp => hb.cell hp
theorem Reads.drew (h : Reads w B size A n xs) : Reads w.drew B size A n xs := h
theorem Reads.drewN (h : Reads w B size A n xs) (k : Nat) : Reads (w.drewN k) B size A n xs := h
theorem Reads.alloc (h : Reads w B size A n xs) (hB : B ≤ w.heap.size) (o : Obj) : Reads (w.alloc o) B size A n xs := h.keep fun p hp => World.cell?_alloc_lt w o p (by omega)
theorem Reads.setCell (h : Reads w B size A n xs) {p : Addr} (hB : B ≤ p.block) (u : Value) : Reads (w.setCell p u) B size A n xs :=
 h.keep fun q hq => World.cell?_setCell_other w p q u (fun e => by subst e; omega)
theorem Reads.grown (h : Reads w B size A n xs) {row : Option Nat} (hg : w.grownBy w' row) (hB : B ≤ w.heap.size) (hr : ∀ g, row = some g → B ≤ g) : Reads w' B size A n xs :=
 h.keep fun p hp => World.cell?_of_block (hg.block p.block (by omega) (fun e => by have := hr _ e.symm; omega))
theorem Reads.cut (h : Reads w B size A n xs) {k cap : Nat} (hk : k ≤ n) (hc : n ≤ cap) :
  Reads w B size (if cap = k then A else A.map (·.add (k * size))) (n - k) (xs.drop (k * size)) := by
 refine ⟨by rw [List.length_drop, h.1, Nat.sub_mul], fun hn => ?_⟩
 obtain ⟨ad, rfl, hb, hcell⟩ := h.2 (by omega)
 rw [if_neg (by omega)]
 refine ⟨ad.add (k * size), rfl, by rw [block_of_add]; exact hb, fun j u hu => ?_⟩
 rw [add_of_add]
 exact hcell _ u (by rw [← hu, List.getElem?_drop])
theorem Reads.of_own {base : Nat} {e : TypeId} {c : Nat} (h : w.ownsRow base e size (.slice A n c) n xs) : Reads w w.heap.size size A n xs := by
 refine ⟨h.1, fun hn => ?_⟩
 obtain ⟨g, cap, hv, _, hlt⟩ := h.form hn
 have hA : A = some ⟨g, 0, none⟩ := by injection hv
 subst hA
 exact ⟨_, rfl, hlt, h.cells (g := g) rfl⟩
end
def Blk (w : World) (g : Nat) (t : TypeId) (cs : Array Value) : Prop := w.heap[g]? = some (.cells cs t (0, 0))
section
variable {w w' : World} {g : Nat} {t : TypeId} {cs : Array Value}
theorem Blk.lt (h : Blk w g t cs) : g < w.heap.size := by
 rcases Nat.lt_or_ge g w.heap.size with hlt | hge
 ·exact hlt
 ·unfold Blk at h; rw [Array.getElem?_eq_none hge] at h; cases h
theorem Blk.cell (h : Blk w g t cs) (i : Nat) : w.cell? ⟨g, i, none⟩ = cs[i]? := cell_of_row w g i cs t (0, 0) h
theorem Blk.frozen (h : Blk w g t cs) (i : Nat) : w.frozen? ⟨g, i, none⟩ = false := by
 unfold Blk at h
 simp [World.frozen?, h]
theorem Blk.new (w : World) (t : TypeId) (cs : Array Value) : Blk (w.alloc (.cells cs t)) w.heap.size t cs := heap_alloc_new w _
theorem Blk.drew (h : Blk w g t cs) : Blk w.drew g t cs := h
theorem Blk.drewN (h : Blk w g t cs) (n : Nat) : Blk (w.drewN n) g t cs := h
theorem Blk.alloc (h : Blk w g t cs) (o : Obj) : Blk (w.alloc o) g t cs := (Below.heap_alloc w o g h.lt).trans h
theorem Blk.set_ (h : Blk w g t cs) (i : Nat) (u : Value) : Blk (w.setCell ⟨g, i, none⟩ u) g t (cs.setIfInBounds i u) := by
 unfold Blk at h ⊢
 simp [World.setCell, Array.getElem?_modify, h]
theorem Blk.far (h : Blk w g t cs) {p : Addr} (hp : g ≠ p.block) (u : Value) : Blk (w.setCell p u) g t cs := (Below.heap_setCell w p u g hp).trans h
theorem Blk.below {B : Nat} (h : Blk w g t cs) (hb : Below B w w') (hg : g < B) : Blk w' g t cs := (hb.block g hg).trans h
theorem Blk.grown {row : Option Nat} (h : Blk w g t cs) (hb : w.grownBy w' row) (hg : some g ≠ row) : Blk w' g t cs := (hb.block g h.lt hg).trans h
theorem Blk.ne_ {g' : Nat} {t' : TypeId} {cs' : Array Value} (h : Blk w g t cs) (h' : Blk w g' t' cs') (hne : t ≠ t') : g ≠ g' := by
 rintro rfl
 unfold Blk at h h'
 rw [h] at h'
 injection h' with h'
 injection h' with _ ht
 exact hne ht
theorem own_blk_ne {base : Nat} {e : TypeId} {size n : Nat} {v : Value} {xs : List Value} (h : w.ownsRow base e size v n xs) (hg : Blk w g t cs) (hne : e ≠ t) : v.ownBlock ≠ some g := by
 rcases h.2 with ⟨rfl, _⟩ | ⟨g', cap, cur, rfl, _, hh, _⟩
 ·simp [Value.ownBlock]
 ·intro he
  have : g' = g := by simpa [Value.ownBlock] using he
  subst this
  exact Blk.ne_ (t := e) hh hg hne rfl
end
section
variable {P : Program} (w : World)
theorem run_append_of_nil (base : Nat) (t ty e : TypeId) (i : TypeInfo) (size : Nat) (ht : P.underlying t = some (.slice e)) (hi : P.info? e = some i)
  (v : Value) (n : Nat) (xs : List Value) (hown : w.ownsRow base e size v n xs) (c : Nat) : (Builtin.append_ #[t, t] ty #[v, .slice none 0 c]).run P w = .ok v w := by
 rcases hown.2 with ⟨rfl, rfl⟩ | ⟨g, cap, cur, rfl, _, _, hnc, _⟩
 ·simp [Builtin.append_, run_underlying ht, sizeOf, typeInfo, hi, Builtin.lenOf, Builtin.firstCells]
 ·simp [Builtin.append_, run_underlying ht, sizeOf, typeInfo, hi, Builtin.lenOf, Builtin.firstCells, hnc, storeCells]
theorem run_append_any (base : Nat) (t ty e : TypeId) (i : TypeInfo) (z : Value) (size bytes : Nat) (ht : P.underlying t = some (.slice e)) (hi : P.info? e = some i) (hz : i.zero = some z)
  (hsize : i.size = size) (hby : i.bytes = bytes) (hzs : z.cells.size = size) (hsz : 0 < size)
  (v : Value) (n : Nat) (xs : List Value) (hown : w.ownsRow base e size v n xs)
  (B : Nat) (A : Option Addr) (m c : Nat) (news : List Value) (hr : Reads w B size A m news) (h1 : ∀ u ∈ news, u.oneCell' = true)
  (h63 : n + m ≤ maxLen) (hbytes : (n + m) * bytes ≤ 140737488355328) (hbase : base ≤ w.heap.size) :
  ∃ v' w', (Builtin.append_ #[t, t] ty #[v, .slice A m c]).run P w = .ok v' w' ∧ w'.ownsRow base e size v' (n + m) (xs ++ news) ∧ w.grownBy w' v.ownBlock ∧
   (v'.ownBlock = v.ownBlock ∨ v'.ownBlock = some w.heap.size) := by
 rcases A with _ | ad
 ·have hm : m = 0 := by
   rcases Nat.eq_zero_or_pos m with h0 | h0
   ·exact h0
   ·obtain ⟨ad, h, _⟩ := hr.2 h0
    cases h
  subst hm
  have hn : news = [] := List.eq_nil_of_length_eq_zero (by simpa using hr.1)
  subst hn
  exact ⟨v, w, run_append_of_nil w base t ty e i size ht hi v n xs hown c, by simpa using hown, World.grownBy.refl w _, .inl rfl⟩
 ·have hcells : ∀ j u, news[j]? = some u → w.cell? (ad.add j) = some u := by
   intro j u hu
   rcases Nat.eq_zero_or_pos m with h0 | h0
   ·subst h0
    have hn : news = [] := List.eq_nil_of_length_eq_zero (by simpa using hr.1)
    subst hn
    simp at hu
   ·obtain ⟨ad', h, _, hc⟩ := hr.2 h0
    injection h with h
    subst h
    exact hc j u hu
  obtain ⟨v', w', hrun, h2, h3, _, h5⟩ := run_append_own_at (P := P) w base t ty e i z size bytes ht hi hz hsize hby hzs hsz v n xs hown ad m c news hr.1 hcells h1 h63 hbytes hbase
  exact ⟨v', w', hrun, h2, h3, h5⟩
theorem wp_append_any {o : Oper} {a : Act} {K : Act → World → Prop} {Q : Exit → Act → World → Prop} (s x : Operand) (t : TypeId)
  (ho : o.op = .call { callee := .builtin .append, args := #[s, x], argTypes := #[t, t] })
  (base : Nat) (e : TypeId) (i : TypeInfo) (z : Value) (size bytes : Nat) (ht : P.underlying t = some (.slice e)) (hi : P.info? e = some i) (hz : i.zero = some z)
  (hsize : i.size = size) (hby : i.bytes = bytes) (hzs : z.cells.size = size) (hsz : 0 < size)
  (v : Value) (n : Nat) (xs : List Value) (hs : a.eval s = v) (hown : w.ownsRow base e size v n xs)
  (B : Nat) (A : Option Addr) (m c : Nat) (news : List Value) (hx : a.eval x = .slice A m c) (hr : Reads w B size A m news) (h1 : ∀ u ∈ news, u.oneCell' = true)
  (h63 : n + m ≤ maxLen) (hbytes : (n + m) * bytes ≤ 140737488355328) (hbase : base ≤ w.heap.size)
  (h : ∀ v' w', w'.ownsRow base e size v' (n + m) (xs ++ news) → w.grownBy w' v.ownBlock → (v'.ownBlock = v.ownBlock ∨ v'.ownBlock = some w.heap.size) → K (a.put o.dst v') w') : o.wp P a w K Q := by
 obtain ⟨v', w', hrun, h2, h3, h4⟩ := run_append_any (P := P) w base t o.type e i z size bytes ht hi hz hsize hby hzs hsz v n xs hown B A m c news hr h1 h63 hbytes hbase
 unfold Oper.wp execOp
 simp only [ho, resolve, invoke, builtin, Sem.run_bind, Sem.run_pure, Result.andThen_ok, List.map_toArray, List.map_cons, List.map_nil, hs, hx, hrun]
 exact h v' w' h2 h3 h4
theorem wpList_append_any {ops : Array Oper} {rest : List Oper} {o : Oper} {a : Act} {Q : Exit → Act → World → Prop} (hgd : o.guard = none) (s x : Operand) (t : TypeId)
  (ho : o.op = .call { callee := .builtin .append, args := #[s, x], argTypes := #[t, t] })
  (base : Nat) (e : TypeId) (i : TypeInfo) (z : Value) (size bytes : Nat) (ht : P.underlying t = some (.slice e)) (hi : P.info? e = some i) (hz : i.zero = some z)
  (hsize : i.size = size) (hby : i.bytes = bytes) (hzs : z.cells.size = size) (hsz : 0 < size)
  (v : Value) (n : Nat) (xs : List Value) (hs : a.eval s = v) (hown : w.ownsRow base e size v n xs)
  (B : Nat) (A : Option Addr) (m c : Nat) (news : List Value) (hx : a.eval x = .slice A m c) (hr : Reads w B size A m news) (h1 : ∀ u ∈ news, u.oneCell' = true)
  (h63 : n + m ≤ maxLen) (hbytes : (n + m) * bytes ≤ 140737488355328) (hbase : base ≤ w.heap.size)
  (h : ∀ v' w', w'.ownsRow base e size v' (n + m) (xs ++ news) → w.grownBy w' v.ownBlock → (v'.ownBlock = v.ownBlock ∨ v'.ownBlock = some w.heap.size) → wpList P ops Q rest (a.put o.dst v') w') : wpList P ops Q (o :: rest) a w :=
 wpList_plain hgd fun _ hK => wp_append_any w s x t ho base e i z size bytes ht hi hz hsize hby hzs hsz v n xs hs hown B A m c news hx hr h1 h63 hbytes hbase fun v' w' h2 h3 h4 => hK _ _ (h v' w' h2 h3 h4)
theorem step_append_any {ops : Array Oper} {o : Oper} {a : Act} {K : Act → World → Prop} {Q : Exit → Act → World → Prop} {E : Prop} (hgd : o.guard = none) (s x : Operand) (t : TypeId)
  (ho : o.op = .call { callee := .builtin .append, args := #[s, x], argTypes := #[t, t] })
  (base : Nat) (e : TypeId) (i : TypeInfo) (z : Value) (size bytes : Nat) (ht : P.underlying t = some (.slice e)) (hi : P.info? e = some i) (hz : i.zero = some z)
  (hsize : i.size = size) (hby : i.bytes = bytes) (hzs : z.cells.size = size) (hsz : 0 < size)
  (v : Value) (n : Nat) (xs : List Value) (hs : a.eval s = v) (hown : w.ownsRow base e size v n xs)
  (B : Nat) (A : Option Addr) (m c : Nat) (news : List Value) (hx : a.eval x = .slice A m c) (hr : Reads w B size A m news) (h1 : ∀ u ∈ news, u.oneCell' = true)
  (h63 : n + m ≤ maxLen) (hbytes : (n + m) * bytes ≤ 140737488355328) (hbase : base ≤ w.heap.size)
  (h : ∀ v' w', w'.ownsRow base e size v' (n + m) (xs ++ news) → w.grownBy w' v.ownBlock → (v'.ownBlock = v.ownBlock ∨ v'.ownBlock = some w.heap.size) → K (a.put o.dst v') w') :
  if Region.wanted o (yielded ops a.tmps) = true then Oper.wp P o a w K Q else E := by
 have hw : Region.wanted o (yielded ops a.tmps) = true := by simp [Region.wanted, hgd]
 rw [if_pos hw]
 exact wp_append_any w s x t ho base e i z size bytes ht hi hz hsize hby hzs hsz v n xs hs hown B A m c news hx hr h1 h63 hbytes hbase h
end
/-! ### Rows of the call's own, with fewer words -/
structure Elem (P : Program) (t e : TypeId) (size bytes : Nat) : Prop where
 und : P.underlying t = some (.slice e)
 info : ∃ i z, P.info? e = some i ∧ i.zero = some z ∧ i.size = size ∧ i.bytes = bytes ∧ z.cells.size = size
 pos : 0 < size
 big : 0 < bytes
theorem Elem.mk' {P : Program} {t e : TypeId} {size bytes : Nat} {z : Value} (hu : P.underlying t = some (.slice e)) (h : (P.info? e).map (fun i => (i.zero, i.size, i.bytes)) = some (some z, size, bytes)) (hz : z.cells.size = size) (h0 : 0 < size) (h1 : 0 < bytes) : Elem P t e size bytes := by
 obtain ⟨i, hi, a, b, c⟩ := info_parts h
 exact ⟨hu, ⟨i, z, hi, a, b, c, hz⟩, h0, h1⟩
theorem own_shape {w : World} {base : Nat} {e : TypeId} {size n : Nat} {v : Value} {xs : List Value} (h : w.ownsRow base e size v n xs) : ∃ A c, v = .slice A n c ∧ n ≤ c ∧ c ≤ maxLen := by
 rcases h.2 with ⟨rfl, rfl⟩ | ⟨g, cap, cur, rfl, _, _, h1, h2, _⟩
 ·exact ⟨none, 0, rfl, Nat.le_refl _, Nat.zero_le _⟩
 ·exact ⟨_, cap, rfl, h1, h2⟩
theorem own_base {w : World} {base base' : Nat} {e : TypeId} {size n : Nat} {v : Value} {xs : List Value} (h : w.ownsRow base e size v n xs) (hb : base' ≤ base) : w.ownsRow base' e size v n xs := by
 refine ⟨h.1, ?_⟩
 rcases h.2 with h | ⟨g, cap, cur, a, b, r⟩
 ·exact .inl h
 ·exact .inr ⟨g, cap, cur, a, Nat.le_trans hb b, r⟩
theorem below_own {w w' : World} {base : Nat} {e : TypeId} {size n : Nat} {v : Value} {xs : List Value} (h : w.ownsRow base e size v n xs) (hb : base ≤ w.heap.size) (hg : w.grownBy w' v.ownBlock) : Below base w w' :=
 (Below.refl _ _).grown hg hb fun k hk => (h.lt k hk).1
theorem own_below {w w' : World} {base : Nat} {e : TypeId} {size n : Nat} {v : Value} {xs : List Value} (h : w.ownsRow base e size v n xs) (hb : Below w.heap.size w w') : w'.ownsRow base e size v n xs := by
 refine ⟨h.1, ?_⟩
 rcases h.2 with h | ⟨g, cap, cur, a, b, hg, r⟩
 ·exact .inl h
 ·exact .inr ⟨g, cap, cur, a, b, (hb.block g (Array.getElem?_eq_some_iff.1 hg).1).trans hg, r⟩
theorem below_drewN {B : Nat} {a w : World} (h : Below B a w) (n : Nat) : Below B a (w.drewN n) := ⟨h.os, h.tape, h.output, h.size, h.block⟩
theorem wpList_app {P : Program} {w : World} {ops : Array Oper} {rest : List Oper} {o : Oper} {a : Act} {Q : Exit → Act → World → Prop} (hgd : o.guard = none) (s x : Operand) (t : TypeId)
  (ho : o.op = .call { callee := .builtin .append, args := #[s, x], argTypes := #[t, t] }) {e : TypeId} {size bytes : Nat} (E : Elem P t e size bytes)
  (base : Nat) (A0 : Option Addr) (n c0 : Nat) (xs : List Value) (hs : a.eval s = .slice A0 n c0) (hown : w.ownsRow base e size (.slice A0 n c0) n xs)
  (B : Nat) (A : Option Addr) (m c : Nat) (news : List Value) (hx : a.eval x = .slice A m c) (hr : Reads w B size A m news) (h1 : ∀ u ∈ news, u.oneCell' = true)
  (hlim : (n + m) * bytes ≤ 140737488355328) (hbase : base ≤ w.heap.size) (M : Nat) (hM : M = n + m)
  (h : ∀ A' c' w', M ≤ c' → c' ≤ maxLen → w'.ownsRow base e size (.slice A' M c') M (xs ++ news) → Below base w w' → w.grownBy w' (Value.slice A0 n c0).ownBlock → wpList P ops Q rest (a.put o.dst (.slice A' M c')) w') :
  wpList P ops Q (o :: rest) a w := by
 obtain ⟨i, z, hi, hz, hsz, hby, hzs⟩ := E.info
 subst hM
 refine wpList_append_any w hgd s x t ho base e i z size bytes E.und hi hz hsz hby hzs E.pos _ n xs hs hown B A m c news hx hr h1 ?_ hlim hbase ?_
 ·have : n + m ≤ (n + m) * bytes := Nat.le_mul_of_pos_right _ E.big
  unfold maxLen; omega
 ·intro v' w' hown' hg _
  obtain ⟨A', c', rfl, hc1, hc2⟩ := own_shape hown'
  exact h A' c' w' hc1 hc2 hown' (below_own hown hbase hg) hg
theorem add_head (g k : Nat) : (⟨g, 0, none⟩ : Addr).add k = ⟨g, k, none⟩ := by unfold Addr.add; split <;> simp_all
theorem ret_int {k : IntKind} {a b : Int} (h : a = b) : Ending.returned (.int k a) = .returned (.int k b) := by rw [h]
theorem vint {k : IntKind} {a b : Int} (h : a = b) : Value.int k a = .int k b := by rw [h]
theorem ret_two {v v' u u' : Value} (h : v = v') (k : u = u') : Ending.returned (.tuple #[v, u]) = .returned (.tuple #[v', u']) := by rw [h, k]
theorem ret_bool {a b : Bool} (h : a = b) : Ending.returned (.bool a) = .returned (.bool b) := by rw [h]
theorem step_app {P : Program} {w : World} {ops : Array Oper} {o : Oper} {a : Act} {K : Act → World → Prop} {Q : Exit → Act → World → Prop} {F : Prop} (hgd : o.guard = none) (s x : Operand) (t : TypeId)
  (ho : o.op = .call { callee := .builtin .append, args := #[s, x], argTypes := #[t, t] }) {e : TypeId} {size bytes : Nat} (E : Elem P t e size bytes)
  (base : Nat) (A0 : Option Addr) (n c0 : Nat) (xs : List Value) (hs : a.eval s = .slice A0 n c0) (hown : w.ownsRow base e size (.slice A0 n c0) n xs)
  (B : Nat) (A : Option Addr) (m c : Nat) (news : List Value) (hx : a.eval x = .slice A m c) (hr : Reads w B size A m news) (h1 : ∀ u ∈ news, u.oneCell' = true)
  (hlim : (n + m) * bytes ≤ 140737488355328) (hbase : base ≤ w.heap.size) (M : Nat) (hM : M = n + m)
  (h : ∀ A' c' w', M ≤ c' → c' ≤ maxLen → w'.ownsRow base e size (.slice A' M c') M (xs ++ news) → Below base w w' → w.grownBy w' (Value.slice A0 n c0).ownBlock → K (a.put o.dst (.slice A' M c')) w') :
  if Region.wanted o (yielded ops a.tmps) = true then Oper.wp P o a w K Q else F := by
 obtain ⟨i, z, hi, hz, hsz, hby, hzs⟩ := E.info
 subst hM
 refine step_append_any w hgd s x t ho base e i z size bytes E.und hi hz hsz hby hzs E.pos _ n xs hs hown B A m c news hx hr h1 ?_ hlim hbase ?_
 ·have : n + m ≤ (n + m) * bytes := Nat.le_mul_of_pos_right _ E.big
  unfold maxLen; omega
 ·intro v' w' hown' hg _
  obtain ⟨A', c', rfl, hc1, hc2⟩ := own_shape hown'
  exact h A' c' w' hc1 hc2 hown' (below_own hown hbase hg) hg
theorem reads_new (w : World) (t : TypeId) (cs : Array Value) (size n : Nat) (h : cs.size = n * size) : Reads (w.alloc (.cells cs t)) (w.heap.size + 1) size (some ⟨w.heap.size, 0, none⟩) n cs.toList :=
 ⟨by simpa using h, fun _ => ⟨_, rfl, Nat.lt_succ_self _, fun j u hu => by rw [add_head, (Blk.new w t cs).cell j]; simpa using hu⟩⟩
/-! ### Bytes -/
def bv (l : List Int) : List Value := l.map (Value.int .u8)
def Bs (l : List Int) : Prop := ∀ x ∈ l, 0 ≤ x ∧ x ≤ 255
theorem bv_one (l : List Int) : ∀ u ∈ bv l, u.oneCell' = true := by
 intro u hu
 simp only [bv, List.mem_map] at hu
 obtain ⟨x, _, rfl⟩ := hu
 rfl
theorem Bs.nil : Bs [] := by intro x hx; cases hx
theorem Bs.app {a b : List Int} (ha : Bs a) (hb : Bs b) : Bs (a ++ b) := by
 intro x hx
 rcases List.mem_append.1 hx with h | h
 ·exact ha x h
 ·exact hb x h
theorem Bs.take {l : List Int} (h : Bs l) (n : Nat) : Bs (l.take n) := fun x hx => h x (List.mem_of_mem_take hx)
theorem Bs.drop {l : List Int} (h : Bs l) (n : Nat) : Bs (l.drop n) := fun x hx => h x (List.mem_of_mem_drop hx)
theorem bv_app (a b : List Int) : bv (a ++ b) = bv a ++ bv b := by simp [bv]
theorem bv_len (a : List Int) : (bv a).length = a.length := by simp [bv]
def Byt (w : World) (B : Nat) (A : Option Addr) (n : Nat) (l : List Int) : Prop := Reads w B 1 A n (bv l) ∧ Bs l
section
variable {w w' : World} {B B' n : Nat} {A : Option Addr} {l : List Int}
theorem Byt.len (h : Byt w B A n l) : l.length = n := by have := h.1.1; rw [bv_len] at this; omega
theorem Byt.at_ {k : Nat} (h : Byt w B A n l) (hk : k < n) : ∃ ad x, A = some ad ∧ ad.block < B ∧ l[k]? = some x ∧ 0 ≤ x ∧ x ≤ 255 ∧ w.cell? (ad.add k) = some (.int .u8 x) := by
 obtain ⟨ad, u, hA, hb, hx, hc⟩ := h.1.at_ hk
 have hl : k < l.length := by have := h.len; omega
 refine ⟨ad, l[k], hA, hb, List.getElem?_eq_getElem hl, (h.2 _ (List.getElem_mem hl)).1, (h.2 _ (List.getElem_mem hl)).2, ?_⟩
 rw [hc]
 simp only [bv, List.getElem?_map, List.getElem?_eq_getElem hl, Option.map_some] at hx
 rw [Option.some.inj hx]
theorem Byt.at' {k : Nat} (h : Byt w B A n l) (hk : k < n) : ∃ b o x, A = some ⟨b, o, none⟩ ∧ b < B ∧ l[k]? = some x ∧ 0 ≤ x ∧ x ≤ 255 ∧ w.cell? ⟨b, o + k, none⟩ = some (.int .u8 x) := by
 obtain ⟨ad, x, hA, hb, hx, h0, h1, hc⟩ := h.at_ hk
 obtain ⟨ad', x', hA', _, _, _, _, hc'⟩ := h.at_ (k := 0) (by omega)
 rw [hA] at hA'
 injection hA' with e
 subst e
 have hs : ad.spot = none := by simpa [Addr.add] using World.cell?_spot hc'
 obtain ⟨b, o, sp⟩ := ad
 simp only at hs hb
 subst hs
 have e : (⟨b, o, none⟩ : Addr).add k = ⟨b, o + k, none⟩ := by unfold Addr.add; split <;> simp_all
 exact ⟨b, o, x, hA, hb, hx, h0, h1, by rw [← e]; exact hc⟩
theorem Byt.none_ (w : World) (B : Nat) : Byt w B none 0 [] := ⟨Reads.none_, Bs.nil⟩
theorem Byt.keep (h : Byt w B A n l) (hk : ∀ p : Addr, p.block < B → w'.cell? p = w.cell? p) : Byt w' B A n l := ⟨h.1.keep hk, h.2⟩
theorem Byt.more (h : Byt w B A n l) (hB : B ≤ B') : Byt w B' A n l := ⟨h.1.more hB, h.2⟩
theorem Byt.below (h : Byt w B A n l) (hb : Below B w w') : Byt w' B A n l := ⟨h.1.below hb, h.2⟩
theorem Byt.alloc (h : Byt w B A n l) (hB : B ≤ w.heap.size) (o : Obj) : Byt (w.alloc o) B A n l := ⟨h.1.alloc hB o, h.2⟩
theorem Byt.drew (h : Byt w B A n l) : Byt w.drew B A n l := ⟨h.1.drew, h.2⟩
theorem Byt.drewN (h : Byt w B A n l) (k : Nat) : Byt (w.drewN k) B A n l := ⟨h.1.drewN k, h.2⟩
theorem Byt.cut (h : Byt w B A n l) {k cap : Nat} (hk : k ≤ n) (hc : n ≤ cap) : Byt w B (if cap = k then A else A.map (·.add k)) (n - k) (l.drop k) := by
 have := h.1.cut (cap := cap) hk hc
 rw [Nat.mul_one] at this
 refine ⟨?_, h.2.drop k⟩
 simpa [bv, List.map_drop] using this
theorem Byt.head (h : Byt w B A n l) {k : Nat} (hk : k ≤ n) : Byt w B A k (l.take k) := by
 have hl := h.len
 refine ⟨⟨by simp [bv]; omega, fun hn => ?_⟩, h.2.take k⟩
 obtain ⟨ad, hA, hb, hc⟩ := h.1.2 (by omega)
 refine ⟨ad, hA, hb, fun j u hu => hc j u ?_⟩
 simp only [bv, List.getElem?_map, List.map_take, List.getElem?_take] at hu ⊢
 split at hu
 ·exact hu
 ·cases hu
end
theorem byt_own {w : World} {base : Nat} {e : TypeId} {n c : Nat} {A : Option Addr} {l : List Int} (h : w.ownsRow base e 1 (.slice A n c) n (bv l)) (hb : Bs l) : Byt w w.heap.size A n l := ⟨Reads.of_own h, hb⟩
end Go.Proofs.Ytleckflmckbheaa

namespace Go.Proofs.Ytleckflmckbheaa
open Go.ChangeShapes Go.WideShapes Go.ChangeAt Go.RowKit
theorem own : ownKnob Try.prog.godebug = none := by kernel_rfl
theorem laidOut : laidOutB Try.prog = true := by kernel_rfl
theorem wf_u8 {x : Int} (h : (Lit.int .u8 x).wf = true) : 0 ≤ x ∧ x ≤ 255 := by simpa [Lit.wf, IntKind.min, IntKind.max, IntKind.signed, IntKind.bits] using h
theorem wf_u16 {x : Int} (h : (Lit.int .u16 x).wf = true) : 0 ≤ x ∧ x ≤ 65535 := by simpa [Lit.wf, IntKind.min, IntKind.max, IntKind.signed, IntKind.bits] using h
theorem wf_u32 {x : Int} (h : (Lit.int .u32 x).wf = true) : 0 ≤ x ∧ x ≤ 4294967295 := by simpa [Lit.wf, IntKind.min, IntKind.max, IntKind.signed, IntKind.bits] using h
theorem wf_i64 {x : Int} (h : (Lit.int .i64 x).wf = true) : -9223372036854775808 ≤ x ∧ x ≤ 9223372036854775807 := by simpa [Lit.wf, IntKind.min, IntKind.max, IntKind.signed, IntKind.bits] using h
theorem byt_of_cells {w : World} {a : Addr} {len cap : Nat} {zs : List Int} (hl : len ≤ cap) (hz : zs.length = cap) (hb : 0 < len → a.block < w.heap.size) (hc : ∀ i, i < zs.length → w.cell? (a.add i) = some (.int .u8 (zs.getD i 0)))
    (hw : ∀ n ∈ zs, (Lit.int .u8 n).wf = true) : Byt w w.heap.size (some a) len (zs.take len) := by
  refine ⟨⟨by simp [bv]; omega, fun hn => ⟨a, rfl, hb hn, fun j u hu => ?_⟩⟩, fun x hx => wf_u8 (hw x (List.mem_of_mem_take hx))⟩
  simp only [bv, List.getElem?_map, List.getElem?_take] at hu
  split at hu
  · rename_i hj
    have hjl : j < zs.length := by omega
    rw [List.getElem?_eq_getElem hjl] at hu
    rw [hc j hjl]
    simp only [Option.map_some, Option.some.injEq] at hu
    rw [← hu]
    simp [List.getD, List.getElem?_eq_getElem hjl]
  · simp at hu
section
variable {H : Type} {enc : TypeId × Value → H} {P : Program} {W : World}
theorem open_byt {t e : TypeId} {base : Nat} {v : Value} {d : DataW H} {p : List MemPlace} (ht : P.underlying t = some (.slice e)) (he : P.underlying e = some (.int .u8)) (hC : P.cellsOf e = 1)
    (hok : Value.okWide P W .any base t v) (h : DataW.Trod enc P W 0 (fun _ => true) true t v d p) : ∃ A n c l, v = .slice A n c ∧ n ≤ c ∧ c ≤ maxLen ∧ Byt W W.heap.size A n l := by
  obtain ⟨a0, len0, cap0, rfl⟩ := okWide_slice ht hok
  obtain ⟨fuel, hf⟩ := h
  rcases open_ints ht he hC hf with ⟨hcs, _⟩ | ⟨x, l, c, zs, hcs, _, hl, hm, hz, _, hcell, hwz⟩
  · simp [Value.cells] at hcs
    obtain ⟨rfl, rfl, rfl⟩ := hcs
    exact ⟨none, 0, 0, [], rfl, Nat.le_refl _, Nat.zero_le _, Byt.none_ _ _⟩
  · simp [Value.cells] at hcs
    obtain ⟨rfl, rfl, rfl⟩ := hcs
    have hz' : zs.length = cap0 := by simpa using hz
    refine ⟨_, len0, cap0, zs.take len0, rfl, hl, hm, byt_of_cells hl hz' (fun hn => ?_) hcell hwz⟩
    have := World.block_lt_of_cell? W _ (hcell 0 (by omega))
    rwa [block_of_add] at this
end
end Go.Proofs.Ytleckflmckbheaa

namespace Go.Proofs.Ytleckflmckbheaa
def upd (f : Int → Option Int) (a b : Int) : Int → Option Int := fun z => if z = a then some b else f z
theorem upd_same (f : Int → Option Int) (a b : Int) : upd f a b a = some b := if_pos rfl
theorem upd_other (f : Int → Option Int) {a b z : Int} (h : z ≠ a) : upd f a b z = f z := if_neg h
inductive RtN (f : Int → Option Int) : Int → Int → Nat → Prop
  | here {a : Int} (h : f a = none) : RtN f a a 0
  | step {a p r : Int} {n : Nat} (h : f a = some p) (t : RtN f p r n) : RtN f a r (n + 1)
theorem RtN.det {f : Int → Option Int} {a r : Int} {n : Nat} (h : RtN f a r n) : ∀ {r' : Int} {n' : Nat}, RtN f a r' n' → r = r' ∧ n = n' := by
  induction h with
  | here h =>
    intro r' n' h'
    cases h' with
    | here => exact ⟨rfl, rfl⟩
    | step h2 t => rw [h] at h2; cases h2
  | step h t ih =>
    intro r' n' h'
    cases h' with
    | here h2 => rw [h] at h2; cases h2
    | step h2 t2 =>
      rw [h] at h2
      cases h2
      obtain ⟨e1, e2⟩ := ih t2
      exact ⟨e1, by rw [e2]⟩
theorem RtN.root {f : Int → Option Int} {a r : Int} {n : Nat} (h : RtN f a r n) : f r = none := by
  induction h with
  | here h => exact h
  | step h t ih => exact ih
theorem RtN.near {f : Int → Option Int} {a b x r : Int} {n m : Nat} (ha : ∃ r', RtN f a r' n) (h : RtN f x r m) (hm : m < n) : RtN (upd f a b) x r m := by
  induction h with
  | here h =>
    rename_i x
    refine .here ?_
    rw [upd_other f]
    · exact h
    · rintro rfl
      obtain ⟨r', ha⟩ := ha
      have := (RtN.det ha (.here h)).2
      omega
  | step h t ih =>
    rename_i x p r k
    have hne : x ≠ a := by
      rintro rfl
      obtain ⟨r', ha⟩ := ha
      have := (RtN.det ha (.step h t)).2
      omega
    exact .step (by rw [upd_other f hne]; exact h) (ih (by omega))
theorem RtN.halve {f : Int → Option Int} {a p q : Int} (hp : f a = some p) (hq : f p = some q) {x r : Int} {n : Nat} (h : RtN f x r n) : ∃ m, m ≤ n ∧ RtN (upd f a q) x r m := by
  induction h with
  | here h =>
    rename_i x
    refine ⟨0, Nat.le_refl _, .here ?_⟩
    rw [upd_other f]
    · exact h
    · rintro rfl; rw [hp] at h; cases h
  | step h t ih =>
    rename_i x y r n
    by_cases e : x = a
    · subst e
      rw [hp] at h
      cases h
      cases t with
      | here h2 => rw [hq] at h2; cases h2
      | step h2 t2 =>
        rename_i z k
        rw [hq] at h2
        cases h2
        have hx : ∃ r', RtN f x r' (k + 2) := ⟨r, .step hp (.step hq t2)⟩
        exact ⟨k + 1, by omega, .step (upd_same _ _ _) (RtN.near hx t2 (by omega))⟩
    · obtain ⟨m, hm, hr⟩ := ih
      exact ⟨m + 1, by omega, .step (by rw [upd_other f e]; exact h) hr⟩
theorem RtN.join {f : Int → Option Int} {ra rb : Int} (ha : f ra = none) (hb : f rb = none) (hne : ra ≠ rb) {x r : Int} {n : Nat} (h : RtN f x r n) : ∃ m, RtN (upd f ra rb) x (if r = ra then rb else r) m := by
  induction h with
  | here h =>
    rename_i x
    by_cases e : x = ra
    · subst e
      rw [if_pos rfl]
      exact ⟨1, .step (upd_same _ _ _) (.here (by rw [upd_other f (fun hh => hne hh.symm)]; exact hb))⟩
    · rw [if_neg e]
      exact ⟨0, .here (by rw [upd_other f e]; exact h)⟩
  | step h t ih =>
    rename_i x p r n
    obtain ⟨m, hm⟩ := ih
    have e : x ≠ ra := by rintro rfl; rw [ha] at h; cases h
    exact ⟨m + 1, .step (by rw [upd_other f e]; exact h) hm⟩
def Roots (f : Int → Option Int) (R : Int → Int) : Prop := ∀ x, ∃ n, RtN f x (R x) n
theorem roots_nil : Roots (fun _ => none) (fun x => x) := fun x => ⟨0, .here rfl⟩
theorem Roots.halve {f : Int → Option Int} {R : Int → Int} (h : Roots f R) {a p q : Int} (hp : f a = some p) (hq : f p = some q) : Roots (upd f a q) R := fun x => by
  obtain ⟨n, hn⟩ := h x
  obtain ⟨m, _, hm⟩ := hn.halve hp hq
  exact ⟨m, hm⟩
theorem Roots.join {f : Int → Option Int} {R : Int → Int} (h : Roots f R) {ra rb : Int} (ha : f ra = none) (hb : f rb = none) (hne : ra ≠ rb) : Roots (upd f ra rb) (fun x => if R x = ra then rb else R x) := fun x => by
  obtain ⟨n, hn⟩ := h x
  exact hn.join ha hb hne
theorem Roots.step {f : Int → Option Int} {R : Int → Int} (h : Roots f R) {a p : Int} (hp : f a = some p) : R a = R p := by
  obtain ⟨n, hn⟩ := h a
  obtain ⟨m, hm⟩ := h p
  exact (hn.det (.step hp hm)).1
theorem Roots.idem {f : Int → Option Int} {R : Int → Int} (h : Roots f R) (x : Int) : R (R x) = R x ∧ f (R x) = none := by
  obtain ⟨n, hn⟩ := h x
  obtain ⟨m, hm⟩ := h (R x)
  exact ⟨(hm.det (.here hn.root)).1, hn.root⟩
structure Fc where
  id : Int
  a : Int
  b : Int
deriving DecidableEq
def joinR (R : Int → Int) (f : Fc) : Int → Int := if R f.a = R f.b then R else fun x => if R x = R f.a then R f.b else R x
def repF (l : List Fc) : Int → Int := l.foldl joinR fun x => x
theorem repF_snoc (l : List Fc) (f : Fc) : repF (l ++ [f]) = joinR (repF l) f := by simp [repF]
def forF (R : Int → Int) : List Fc → List Fc
  | [] => []
  | f :: l => if R f.a = R f.b then forF R l else f :: forF (joinR R f) l
def forest (l : List Fc) : List Fc := forF (fun x => x) l
theorem joinR_same {R : Int → Int} {f : Fc} (h : R f.a = R f.b) : joinR R f = R := if_pos h
theorem forF_rep (R : Int → Int) : ∀ l : List Fc, (forF R l).foldl joinR R = l.foldl joinR R
  | [] => rfl
  | f :: l => by
    rw [forF]
    split
    · rename_i h
      rw [List.foldl_cons, joinR_same h]
      exact forF_rep R l
    · rw [List.foldl_cons, List.foldl_cons]
      exact forF_rep (joinR R f) l
theorem forest_rep (l : List Fc) : repF (forest l) = repF l := forF_rep _ l
inductive Conn (l : List Fc) : Int → Int → Prop
  | refl (a : Int) : Conn l a a
  | fact {f : Fc} (h : f ∈ l) : Conn l f.a f.b
  | symm {a b : Int} (h : Conn l a b) : Conn l b a
  | trans {a b c : Int} (h : Conn l a b) (h' : Conn l b c) : Conn l a c
theorem Conn.mono {l l' : List Fc} (hl : ∀ f ∈ l, f ∈ l') {a b : Int} (h : Conn l a b) : Conn l' a b := by
  induction h with
  | refl a => exact .refl a
  | fact h => exact .fact (hl _ h)
  | symm _ ih => exact .symm ih
  | trans _ _ ih1 ih2 => exact .trans ih1 ih2
theorem joinR_eq {R : Int → Int} {f : Fc} {x y : Int} (h : R x = R y) : joinR R f x = joinR R f y := by
  unfold joinR; split
  · exact h
  · show (if R x = R f.a then R f.b else R x) = if R y = R f.a then R f.b else R y
    rw [h]
theorem joinR_fact (R : Int → Int) (f : Fc) : joinR R f f.a = joinR R f f.b := by
  unfold joinR; split
  · rename_i h; exact h
  · show (if R f.a = R f.a then R f.b else R f.a) = if R f.b = R f.a then R f.b else R f.b
    rw [if_pos rfl]; split <;> rfl
theorem rep_conn_ : ∀ (n : Nat) (l : List Fc), l.length = n → (∀ x, Conn l x (repF l x)) ∧ ∀ a b, Conn l a b → repF l a = repF l b
  | 0, l, h => by
    obtain rfl := List.eq_nil_of_length_eq_zero h
    refine ⟨fun x => .refl x, fun a b h => ?_⟩
    induction h with
    | refl => rfl
    | fact h => cases h
    | symm _ ih => exact ih.symm
    | trans _ _ ih1 ih2 => exact ih1.trans ih2
  | n + 1, l, h => by
    obtain ⟨l, f, rfl⟩ : ∃ l' f, l = l' ++ [f] := ⟨l.dropLast, l.getLast (by intro e; rw [e] at h; cases h), (List.dropLast_concat_getLast _).symm⟩
    obtain ⟨h1, h2⟩ := rep_conn_ n l (by simpa using h)
    have hm : ∀ g ∈ l, g ∈ l ++ [f] := fun g hg => List.mem_append_left _ hg
    refine ⟨fun x => ?_, fun a b hc => ?_⟩
    · rw [repF_snoc]
      unfold joinR; split
      · exact (h1 x).mono hm
      · show Conn (l ++ [f]) x (if repF l x = repF l f.a then repF l f.b else repF l x)
        split
        · rename_i e
          have c1 : Conn (l ++ [f]) x (repF l f.a) := e ▸ (h1 x).mono hm
          exact c1.trans (((h1 f.a).mono hm).symm.trans ((Conn.fact (List.mem_append_right _ (List.mem_singleton.2 rfl))).trans ((h1 f.b).mono hm)))
        · exact (h1 x).mono hm
    · rw [repF_snoc]
      induction hc with
      | refl => rfl
      | fact hg =>
        rename_i g
        rcases List.mem_append.1 hg with hg | hg
        · exact joinR_eq (h2 _ _ (.fact hg))
        · rw [List.mem_singleton] at hg
          subst hg
          exact joinR_fact _ _
      | symm _ ih => exact ih.symm
      | trans _ _ ih1 ih2 => exact ih1.trans ih2
theorem rep_conn (l : List Fc) (a b : Int) : repF l a = repF l b ↔ Conn l a b := by
  obtain ⟨h1, h2⟩ := rep_conn_ l.length l rfl
  refine ⟨fun h => ?_, h2 a b⟩
  exact (h1 a).trans (h ▸ (h1 b).symm)
end Go.Proofs.Ytleckflmckbheaa

namespace Go.Proofs.Ytleckflmckbheaa
def ksF (R : Int → Int) (k : List Int) : List Int → List Int
  | [] => k
  | a :: l => ksF R (if R a ∈ k then k else k ++ [R a]) l
def ks (R : Int → Int) (A : List Int) : List Int := ksF R [] A
def cls (R : Int → Int) (A : List Int) : List (List Int) := (ks R A).map fun r => A.filter fun x => decide (R x = r)
theorem ksF_snoc (R : Int → Int) (a : Int) : ∀ (l k : List Int), ksF R k (l ++ [a]) = if R a ∈ ksF R k l then ksF R k l else ksF R k l ++ [R a]
  | [], k => rfl
  | b :: l, k => ksF_snoc R a l _
theorem ks_snoc (R : Int → Int) (A : List Int) (a : Int) : ks R (A ++ [a]) = if R a ∈ ks R A then ks R A else ks R A ++ [R a] := ksF_snoc R a A []
theorem mem_ksF (R : Int → Int) (x : Int) : ∀ (l k : List Int), x ∈ ksF R k l ↔ x ∈ k ∨ ∃ a ∈ l, R a = x
  | [], k => by simp [ksF]
  | b :: l, k => by
    rw [ksF, mem_ksF R x l]
    split
    · rename_i h
      constructor
      · rintro (h1 | ⟨a, ha, e⟩)
        · exact .inl h1
        · exact .inr ⟨a, List.mem_cons_of_mem _ ha, e⟩
      · rintro (h1 | ⟨a, ha, e⟩)
        · exact .inl h1
        · rcases List.mem_cons.1 ha with rfl | ha
          · exact .inl (e ▸ h)
          · exact .inr ⟨a, ha, e⟩
    · constructor
      · rintro (h1 | ⟨a, ha, e⟩)
        · rcases List.mem_append.1 h1 with h1 | h1
          · exact .inl h1
          · exact .inr ⟨b, List.mem_cons_self, (List.mem_singleton.1 h1).symm⟩
        · exact .inr ⟨a, List.mem_cons_of_mem _ ha, e⟩
      · rintro (h1 | ⟨a, ha, e⟩)
        · exact .inl (List.mem_append_left _ h1)
        · rcases List.mem_cons.1 ha with rfl | ha
          · exact .inl (List.mem_append_right _ (List.mem_singleton.2 e.symm))
          · exact .inr ⟨a, ha, e⟩
theorem mem_ks {R : Int → Int} {x : Int} {A : List Int} : x ∈ ks R A ↔ ∃ a ∈ A, R a = x := by
  rw [ks, mem_ksF]; simp
theorem nodup_ksF (R : Int → Int) : ∀ (l k : List Int), k.Nodup → (ksF R k l).Nodup
  | [], k, h => h
  | b :: l, k, h => by
    rw [ksF]
    refine nodup_ksF R l _ ?_
    split
    · exact h
    · rename_i hn
      refine List.nodup_append.2 ⟨h, List.pairwise_singleton _ _, fun x hx y hy e => ?_⟩
      rw [List.mem_singleton] at hy
      exact hn (hy ▸ e ▸ hx)
theorem nodup_ks (R : Int → Int) (A : List Int) : (ks R A).Nodup := nodup_ksF R A [] List.nodup_nil
theorem len_of_mem {a b : List Int} (ha : a.Nodup) (hb : b.Nodup) (h : ∀ x, x ∈ a ↔ x ∈ b) : a.length = b.length :=
  ((List.perm_ext_iff_of_nodup ha hb).2 h).length_eq
theorem ks_join {R : Int → Int} {f : Fc} {A : List Int} (ha : f.a ∈ A) (hb : f.b ∈ A) (hne : R f.a ≠ R f.b) : (ks (joinR R f) A).length + 1 = (ks R A).length := by
  have e : (ks (joinR R f) A).length = ((ks R A).filter fun x => decide (x ≠ R f.a)).length := by
    refine len_of_mem (nodup_ks _ _) ((nodup_ks R A).filter _) fun x => ?_
    rw [List.mem_filter, mem_ks, mem_ks]
    have hj : ∀ y, joinR R f y = if R y = R f.a then R f.b else R y := fun y => by unfold joinR; rw [if_neg hne]
    constructor
    · rintro ⟨y, hy, e⟩
      rw [hj] at e
      split at e
      · exact ⟨⟨f.b, hb, e⟩, decide_eq_true (by rw [← e]; exact fun hh => hne hh.symm)⟩
      · rename_i h1
        exact ⟨⟨y, hy, e⟩, decide_eq_true (by rw [← e]; exact h1)⟩
    · rintro ⟨⟨y, hy, e⟩, h2⟩
      refine ⟨y, hy, ?_⟩
      rw [hj, if_neg (by rw [e]; exact of_decide_eq_true h2), e]
  rw [e]
  have hm : R f.a ∈ ks R A := mem_ks.2 ⟨f.a, ha, rfl⟩
  have hnd := nodup_ks R A
  generalize ks R A = k at hm hnd
  induction k with
  | nil => cases hm
  | cons x k ih =>
    obtain ⟨h1, h2⟩ := List.nodup_cons.1 hnd
    by_cases hx : x = R f.a
    · have : k.filter (fun y => decide (y ≠ R f.a)) = k := List.filter_eq_self.2 fun y hy => decide_eq_true fun hh => h1 (by rw [hx, ← hh]; exact hy)
      rw [List.filter_cons, if_neg (by simp [hx]), this, List.length_cons]
    · rw [List.filter_cons, if_pos (by simpa using hx), List.length_cons, List.length_cons]
      have := ih (by rcases List.mem_cons.1 hm with h | h; exact absurd h.symm hx; exact h) h2
      omega
theorem forF_count {A : List Int} : ∀ (l : List Fc) (R : Int → Int), (∀ f ∈ l, f.a ∈ A ∧ f.b ∈ A) → (ks (l.foldl joinR R) A).length + (forF R l).length = (ks R A).length
  | [], R, _ => rfl
  | f :: l, R, h => by
    have hf := h f List.mem_cons_self
    have hl : ∀ g ∈ l, g.a ∈ A ∧ g.b ∈ A := fun g hg => h g (List.mem_cons_of_mem _ hg)
    rw [List.foldl_cons, forF]
    split
    · rename_i e
      rw [joinR_same e]
      exact forF_count l R hl
    · rename_i e
      have h1 := forF_count l (joinR R f) hl
      have h2 := ks_join hf.1 hf.2 e
      rw [List.length_cons]
      omega
theorem ks_id {A : List Int} (h : A.Nodup) : (ks (fun x => x) A).length = A.length :=
  len_of_mem (nodup_ks _ _) h fun x => by rw [mem_ks]; simp
theorem forest_count {l : List Fc} {A : List Int} (hA : A.Nodup) (h : ∀ f ∈ l, f.a ∈ A ∧ f.b ∈ A) : (cls (repF l) A).length + (forest l).length = A.length := by
  have := forF_count l (fun x => x) h
  rw [ks_id hA] at this
  rw [cls, List.length_map]
  exact this
theorem filter_count {R : Int → Int} : ∀ (k A : List Int), k.Nodup → (∀ a ∈ A, R a ∈ k) → ((k.map fun r => A.filter fun x => decide (R x = r)).map List.length).sum = A.length
  | k, [], _, _ => by
    have : ∀ k : List Int, ((k.map fun r => ([] : List Int).filter fun x => decide (R x = r)).map List.length).sum = 0 := fun k => by
      induction k with
      | nil => rfl
      | cons x k ih => rw [List.map_cons, List.map_cons, List.sum_cons, ih]; rfl
    exact this k
  | k, a :: A, hk, h => by
    have ih := filter_count k A hk fun x hx => h x (List.mem_cons_of_mem _ hx)
    have key : ∀ k : List Int, k.Nodup → ((k.map fun r => (a :: A).filter fun x => decide (R x = r)).map List.length).sum = ((k.map fun r => A.filter fun x => decide (R x = r)).map List.length).sum + (if R a ∈ k then 1 else 0) := fun k => by
      induction k with
      | nil => intro _; rfl
      | cons r k ih2 =>
        intro hnd
        obtain ⟨n1, n2⟩ := List.nodup_cons.1 hnd
        have := ih2 n2
        simp only [List.map_cons, List.sum_cons] at this ⊢
        rw [this, List.filter_cons]
        by_cases e : R a = r
        · have hn : R a ∉ k := by rw [e]; exact n1
          rw [if_pos (by simpa using e), List.length_cons, if_neg hn, if_pos (by rw [e]; exact List.mem_cons_self)]
          omega
        · have hiff : (R a ∈ r :: k) = (R a ∈ k) := propext ⟨fun h => (List.mem_cons.1 h).resolve_left e, List.mem_cons_of_mem _⟩
          rw [if_neg (by simpa using e)]
          simp only [hiff]
          omega
    rw [key k hk, ih, if_pos (h a List.mem_cons_self), List.length_cons]
theorem cls_sum (R : Int → Int) (A : List Int) : ((cls R A).map List.length).sum = A.length := filter_count _ _ (nodup_ks R A) fun a ha => mem_ks.2 ⟨a, ha, rfl⟩
def adrs (l : List Fc) : List Int := l.flatMap fun f => [f.a, f.b]
theorem mem_adrs {l : List Fc} {x : Int} : x ∈ adrs l ↔ ∃ f ∈ l, x = f.a ∨ x = f.b := by simp [adrs]
theorem forF_adrs : ∀ (l : List Fc) (R : Int → Int) (D : List Int), (∀ f ∈ l, f.a ≠ f.b) → (∀ x, x ∉ D → (∀ y, R y = R x → y = x)) → ∀ x, x ∈ adrs l → x ∈ D ∨ x ∈ adrs (forF R l)
  | [], R, D, _, _, x, hx => by cases hx
  | f :: l, R, D, hne, hD, x, hx => by
    have hne' : ∀ g ∈ l, g.a ≠ g.b := fun g hg => hne g (List.mem_cons_of_mem _ hg)
    have hx' : x = f.a ∨ x = f.b ∨ x ∈ adrs l := by
      obtain ⟨g, hg, e⟩ := mem_adrs.1 hx
      rcases List.mem_cons.1 hg with rfl | hg
      · rcases e with e | e
        · exact .inl e
        · exact .inr (.inl e)
      · exact .inr (.inr (mem_adrs.2 ⟨g, hg, e⟩))
    rw [forF]
    split
    · rename_i e
      rcases hx' with rfl | rfl | hx'
      · by_cases hd : f.a ∈ D
        · exact .inl hd
        · exact absurd (hD _ hd f.b e.symm) (fun hh => hne f List.mem_cons_self hh.symm)
      · by_cases hd : f.b ∈ D
        · exact .inl hd
        · exact absurd (hD _ hd f.a e) (hne f List.mem_cons_self)
      · exact forF_adrs l R D hne' hD x hx'
    · rename_i e
      have hmem : ∀ z, z ∈ adrs (f :: forF (joinR R f) l) ↔ z = f.a ∨ z = f.b ∨ z ∈ adrs (forF (joinR R f) l) := fun z => by simp [adrs, or_assoc]
      rw [hmem]
      have hD' : ∀ z, z ∉ f.a :: f.b :: D → ∀ y, joinR R f y = joinR R f z → y = z := by
        intro z hz y hy
        simp only [List.mem_cons, not_or] at hz
        obtain ⟨z1, z2, z3⟩ := hz
        have hj : ∀ y, joinR R f y = if R y = R f.a then R f.b else R y := fun y => by unfold joinR; rw [if_neg e]
        have hza : R z ≠ R f.a := fun hh => z1 (hD z z3 f.a hh.symm).symm
        have hzb : R f.b ≠ R z := fun hh => z2 (hD z z3 f.b hh).symm
        rw [hj, hj z, if_neg hza] at hy
        split at hy
        · exact absurd hy hzb
        · exact hD z z3 y hy
      rcases hx' with h | h | hx'
      · exact .inr (.inl h)
      · exact .inr (.inr (.inl h))
      · rcases forF_adrs l (joinR R f) (f.a :: f.b :: D) hne' hD' x hx' with h | h
        · rcases List.mem_cons.1 h with h | h
          · exact .inr (.inl h)
          · rcases List.mem_cons.1 h with h | h
            · exact .inr (.inr (.inl h))
            · exact .inl h
        · exact .inr (.inr (.inr h))
theorem forF_sub : ∀ (l : List Fc) (R : Int → Int), ∀ f ∈ forF R l, f ∈ l
  | [], _, f, h => by cases h
  | g :: l, R, f, h => by
    rw [forF] at h
    split at h
    · exact List.mem_cons_of_mem _ (forF_sub l R f h)
    · rcases List.mem_cons.1 h with rfl | h
      · exact List.mem_cons_self
      · exact List.mem_cons_of_mem _ (forF_sub l _ f h)
theorem forest_adrs {l : List Fc} (h : ∀ f ∈ l, f.a ≠ f.b) (x : Int) : x ∈ adrs (forest l) ↔ x ∈ adrs l := by
  constructor
  · intro hx
    obtain ⟨f, hf, e⟩ := mem_adrs.1 hx
    exact mem_adrs.2 ⟨f, forF_sub l _ f hf, e⟩
  · intro hx
    rcases forF_adrs l (fun x => x) [] h (fun x _ y e => e) x hx with h1 | h1
    · cases h1
    · exact h1
end Go.Proofs.Ytleckflmckbheaa

namespace Go.Proofs.Ytleckflmckbheaa
theorem ksF_kernel {R R' : Int → Int} {A : List Int} (h : ∀ x ∈ A, ∀ y ∈ A, R x = R y ↔ R' x = R' y) : ∀ (l : List Int), (∀ a ∈ l, a ∈ A) → ∀ (D : List Int), (∀ d ∈ D, d ∈ A) → ∃ E : List Int, (∀ e ∈ E, e ∈ A) ∧ ksF R (D.map R) l = E.map R ∧ ksF R' (D.map R') l = E.map R'
  | [], _, D, hD => ⟨D, hD, rfl, rfl⟩
  | a :: l, hl, D, hD => by
    have ha := hl a List.mem_cons_self
    have hl' : ∀ x ∈ l, x ∈ A := fun x hx => hl x (List.mem_cons_of_mem _ hx)
    have hiff : R a ∈ D.map R ↔ R' a ∈ D.map R' := by
      rw [List.mem_map, List.mem_map]
      constructor
      · rintro ⟨d, hd, e⟩; exact ⟨d, hd, (h d (hD d hd) a ha).1 e⟩
      · rintro ⟨d, hd, e⟩; exact ⟨d, hd, (h d (hD d hd) a ha).2 e⟩
    rw [ksF, ksF]
    by_cases hm : R a ∈ D.map R
    · rw [if_pos hm, if_pos (hiff.1 hm)]
      exact ksF_kernel h l hl' D hD
    · rw [if_neg hm, if_neg (fun hh => hm (hiff.2 hh))]
      have := ksF_kernel h l hl' (D ++ [a]) (fun d hd => (List.mem_append.1 hd).elim (hD d) fun hh => by rw [List.mem_singleton] at hh; rw [hh]; exact ha)
      rw [List.map_append, List.map_append] at this
      exact this
theorem cls_kernel {R R' : Int → Int} {A : List Int} (h : ∀ x ∈ A, ∀ y ∈ A, R x = R y ↔ R' x = R' y) : cls R A = cls R' A := by
  obtain ⟨E, hE, e1, e2⟩ := ksF_kernel h A (fun a ha => ha) [] (fun d hd => by cases hd)
  unfold cls
  have e1' : ks R A = E.map R := e1
  have e2' : ks R' A = E.map R' := e2
  rw [e1', e2', List.map_map, List.map_map]
  refine List.map_congr_left fun e he => ?_
  show A.filter (fun x => decide (R x = R e)) = A.filter (fun x => decide (R' x = R' e))
  refine List.filter_congr fun x hx => ?_
  exact decide_eq_decide.2 (h x hx e (hE e he))
theorem forF_idem : ∀ (l : List Fc) (R : Int → Int), forF R (forF R l) = forF R l
  | [], _ => rfl
  | f :: l, R => by
    rw [forF]
    split
    · exact forF_idem l R
    · rename_i h
      rw [forF, if_neg h, forF_idem l (joinR R f)]
theorem forest_idem (l : List Fc) : forest (forest l) = forest l := forF_idem l _
theorem forF_len : ∀ (l : List Fc) (R : Int → Int), (forF R l).length ≤ l.length
  | [], _ => Nat.le_refl _
  | f :: l, R => by
    rw [forF]
    split
    · exact Nat.le_succ_of_le (forF_len l R)
    · exact Nat.succ_le_succ (forF_len l _)
theorem nodup_list (l : List Int) : ∃ A : List Int, A.Nodup ∧ ∀ x, x ∈ A ↔ x ∈ l := ⟨ks (fun x => x) l, nodup_ks _ _, fun x => by rw [mem_ks]; simp⟩
theorem forest_bridge {l F : List Fc} (hF : F = forest l) {p q : List Fc} {f : Fc} (hs : F = p ++ f :: q) : ¬ Conn (p ++ q) f.a f.b := by
  intro hc
  obtain ⟨A, hA, hm⟩ := nodup_list (adrs F)
  have hin : ∀ g ∈ F, g.a ∈ A ∧ g.b ∈ A := fun g hg => ⟨(hm _).2 (mem_adrs.2 ⟨g, hg, .inl rfl⟩), (hm _).2 (mem_adrs.2 ⟨g, hg, .inr rfl⟩)⟩
  have h1 := forest_count hA hin
  have hsub : ∀ g ∈ p ++ q, g ∈ F := fun g hg => by
    rw [hs]
    rcases List.mem_append.1 hg with h | h
    · exact List.mem_append_left _ h
    · exact List.mem_append_right _ (List.mem_cons_of_mem _ h)
  have h2 := forest_count hA fun g hg => hin g (hsub g hg)
  have hk : cls (repF F) A = cls (repF (p ++ q)) A := cls_kernel fun x hx y hy => by
    clear hx hy
    rw [rep_conn, rep_conn]
    refine ⟨fun h => ?_, fun h => h.mono hsub⟩
    induction h with
    | refl => exact .refl _
    | fact hg =>
      rename_i g
      rw [hs] at hg
      rcases List.mem_append.1 hg with hg | hg
      · exact .fact (List.mem_append_left _ hg)
      · rcases List.mem_cons.1 hg with rfl | hg
        · exact hc
        · exact .fact (List.mem_append_right _ hg)
    | symm _ ih => exact .symm ih
    | trans _ _ ih1 ih2 => exact .trans ih1 ih2
  have h3 : (forest F).length = F.length := by rw [hF, forest_idem]
  have h4 : (forest (p ++ q)).length ≤ (p ++ q).length := forF_len _ _
  have h5 : F.length = (p ++ q).length + 1 := by rw [hs, List.length_append, List.length_append, List.length_cons]; omega
  rw [hk] at h1
  omega
theorem bridge_forest {l p q : List Fc} {f : Fc} (hs : l = p ++ f :: q) (h : ¬ Conn (p ++ q) f.a f.b) : f ∈ forest l := by
  refine Decidable.byContradiction fun hn => h ?_
  have h1 : Conn (forest l) f.a f.b := by
    rw [← rep_conn, forest_rep, rep_conn]
    exact .fact (by rw [hs]; exact List.mem_append_right _ List.mem_cons_self)
  refine h1.mono fun g hg => ?_
  have hg2 := forF_sub l _ g hg
  rw [hs] at hg2
  rcases List.mem_append.1 hg2 with h2 | h2
  · exact List.mem_append_left _ h2
  · rcases List.mem_cons.1 h2 with rfl | h2
    · exact absurd hg hn
    · exact List.mem_append_right _ h2
end Go.Proofs.Ytleckflmckbheaa

namespace Go.Proofs.Ytleckflmckbheaa
open Go.RowKit
/-! ### The frame -/
abbrev Env := List (Nat × Value)
def look : Env → Nat → Option Value
 | [], _ => none
 | (k, v) :: r, t => bif Nat.beq k t then some v else look r t
def ev (E : Env) : Operand → Option Value
 | .tmp t => look E t
 | .const v => some v
 | .global g => some (.pointer (some ⟨g, 0, none⟩))
 | .func f => some (.func (.func f) #[] #[])
structure Fr where
 n : Nat
 ds : List Deferred
instance (k : Nat) : OfNat Fr k := ⟨⟨k, []⟩⟩
structure EnvOk (N : Fr) (E : Env) (a : Act) : Prop where
 defers : a.defers = N.ds
 size : a.tmps.size = N.n
 slot : ∀ t v, look E t = some v → a.tmps[t]? = some v
theorem EnvOk.eval {N : Fr} {E : Env} {a : Act} (h : EnvOk N E a) {x : Operand} {v : Value} (hx : ev E x = some v) : a.eval x = v := by
 cases x with
 | tmp t =>
  have := h.slot t v hx
  simp [Act.eval, this]
 | const u => simpa [ev, Act.eval] using hx
 | global g => simpa [ev, Act.eval] using hx
 | func f => simpa [ev, Act.eval] using hx
theorem EnvOk.put {N : Fr} {E : Env} {a : Act} (h : EnvOk N E a) (d : Nat) (v : Value) (hd : d < N.n) : EnvOk N ((d, v) :: E) (a.put (some d) v) := by
 refine ⟨h.defers, by simp [Act.put, h.size], fun t u hu => ?_⟩
 simp only [look] at hu
 by_cases e : d = t
 ·subst e
  have : Nat.beq d d = true := by simp
  rw [this] at hu
  simp only [cond_true, Option.some.injEq] at hu
  subst hu
  simp [Act.put, h.size, hd]
 ·have : Nat.beq d t = false := by
   cases hb : Nat.beq d t with
   | false => rfl
   | true => exact absurd (Nat.eq_of_beq_eq_true hb) e
  rw [this] at hu
  simp only [cond_false] at hu
  have := h.slot t u hu
  simp [Act.put, Array.getElem?_setIfInBounds, e, this]
theorem EnvOk.put0 {N : Fr} {E : Env} {a : Act} (h : EnvOk N E a) (v : Value) : EnvOk N E (a.put none v) := h
theorem EnvOk.weak {N : Fr} {E E' : Env} {a : Act} (h : EnvOk N E a) (hE : ∀ t v, look E' t = some v → look E t = some v) : EnvOk N E' a := ⟨h.defers, h.size, fun t v hv => h.slot t v (hE t v hv)⟩
/-! ### What is to be shown of code, of operations in order, of a quiet region -/
section
variable (P : Program) (N : Fr)
def TC (Q : Exit → Act → World → Prop) (c : Code) (E : Env) (I : World → Prop) : Prop := ∀ a w, EnvOk N E a → I w → c.wp P Q a w
def TL (ops : Array Oper) (Q : Exit → Act → World → Prop) (l : List Oper) (E : Env) (I : World → Prop) : Prop := ∀ a w, EnvOk N E a → I w → wpList P ops Q l a w
def TQ (ops : Array Oper) (R : Act → Prop) (l : List Oper) (E : Env) (I : World → Prop) : Prop := ∀ a, EnvOk N E a → wpQuiet P ops I R l a
def Gives (o : Oper) (E : Env) (I : World → Prop) (v : Value) : Prop := ∀ a w, EnvOk N E a → I w → (execOp a.eval o).run P w = .ok (.value v) w
end
section
variable {P : Program} {N : Fr} {Q : Exit → Act → World → Prop} {E : Env} {I : World → Prop}
theorem TC.seq {x y : Code} {J : Act → World → Prop} (h : TC P N (Exit.then J Q) x E I) (hJ : ∀ a w, J a w → y.wp P Q a w) : TC P N Q (.seq x y) E I :=
 fun a w ha hw => wp_seq (Code.wp_mono (fun e a' w' q => by cases e <;> first | exact hJ _ _ q | exact q) (h a w ha hw))
def Nx (N : Fr) (E : Env) (I : World → Prop) : Act → World → Prop := fun a w => EnvOk N E a ∧ I w
theorem TC.seq1 {x y : Code} {E' : Env} {I' : World → Prop} (h : TC P N (Exit.then (Nx N E' I') Q) x E I) (hy : TC P N Q y E' I') : TC P N Q (.seq x y) E I :=
 TC.seq h fun a w q => hy a w q.1 q.2
theorem TC.skip {J : Act → World → Prop} (h : ∀ a w, EnvOk N E a → I w → J a w) : TC P N (Exit.then J Q) .skip E I := fun a w ha hw => wp_skip (h a w ha hw)
theorem TC.region {id : Nat} {l : List Oper} (h : TL P N l.toArray Q l E I) : TC P N Q (.region id l.toArray false) E I := fun a w ha hw => wp_region_lit (h a w ha hw)
theorem TC.quiet {id : Nat} {l : List Oper} {R : Act → Prop} (hm : P.follows .mixedOrders = true) (hB : Region.lexB .any l.toArray = true) (hI : ∀ w, I w → I { w with drawn := w.drawn + 1 })
  (h : TQ P N l.toArray R l E I) (hR : ∀ a w, R a → I w → Q .normal a w) : TC P N Q (.region id l.toArray true) E I := fun a w ha hw =>
 wp_region_quiet (C := I) hm hB (hI w hw) (by
  have := h a ha
  have hmono : ∀ (l' : List Oper) (a : Act), wpQuiet P l.toArray I R l' a → wpQuiet P l.toArray I (fun a' => ∀ w', I w' → Q .normal a' w') l' a := by
   intro l'
   induction l' with
   | nil => exact fun a hq w' hw' => hR a w' hq hw'
   | cons o r ih =>
    intro a hq
    simp only [wpQuiet] at hq ⊢
    split
    ·rename_i hwt; rw [if_pos hwt] at hq; exact Oper.quiet_mono (fun a' => ih a') hq
    ·rename_i hwt; rw [if_neg hwt] at hq; exact ih _ hq
  simpa using hmono l a this)
theorem TC.split {c : Operand} {x y : Code} {t : Bool} (hc : ev E c = some (.bool t)) (ht : t = true → TC P N Q x E I) (hf : t = false → TC P N Q y E I) : TC P N Q (.cond c x y) E I := fun a w ha hw =>
 wp_cond_split (ha.eval hc) (fun e => ht e a w ha hw) (fun e => hf e a w ha hw)
theorem TC.block {id : Nat} {c : Code} (h : TC P N (Exit.inBlock id Q) c E I) : TC P N Q (.block id c) E I := fun a w ha hw => wp_block (h a w ha hw)
theorem TC.exit {id : Nat} (h : ∀ a w, EnvOk N E a → I w → Q (.exit id) a w) : TC P N Q (.exit id) E I := fun a w ha hw => wp_exit (h a w ha hw)
theorem TC.ret (h : ∀ a w, EnvOk N E a → I w → Q .ret a w) : TC P N Q .ret E I := fun a w ha hw => wp_ret (h a w ha hw)
/-! ### Operations, one after the other -/
section
variable {ops : Array Oper} {l : List Oper} {o : Oper}
theorem TL.nil (h : ∀ a w, EnvOk N E a → I w → Q .normal a w) : TL P N ops Q [] E I := fun a w ha hw => h a w ha hw
theorem TL.val {d : Nat} {v : Value} (hg : o.guard = none) (hd : o.dst = some d) (hN : Nat.blt d N.n = true) (hv : Gives P N o E I v) (h : TL P N ops Q l ((d, v) :: E) I) : TL P N ops Q (o :: l) E I := fun a w ha hw =>
 wpList_plain hg fun K hK => by
  unfold Oper.wp
  rw [hv a w ha hw]
  show K (a.put o.dst v) w
  rw [hd]
  exact hK _ _ (h _ _ (ha.put d v (by simpa [Nat.blt_eq] using hN)) hw)
theorem TQ.nil {R : Act → Prop} (h : ∀ a, EnvOk N E a → R a) : TQ P N ops R [] E I := fun a ha => h a ha
theorem TQ.val {R : Act → Prop} {d : Nat} {v : Value} (hg : o.guard = none) (hd : o.dst = some d) (hN : Nat.blt d N.n = true) (hv : Gives P N o E I v) (h : TQ P N ops R l ((d, v) :: E) I) : TQ P N ops R (o :: l) E I := fun a ha => by
 unfold wpQuiet
 rw [if_pos (by simp [Region.wanted, hg])]
 refine ⟨v, fun w hw => ?_, ?_⟩
 ·unfold Oper.quietAt; rw [hv a w ha hw]; exact ⟨rfl, rfl⟩
 ·rw [hd]; exact h _ (ha.put d v (by simpa [Nat.blt_eq] using hN))
end
/-! ### What operations give -/
section
variable {o : Oper}
theorem gives_move {x : Operand} {v : Value} (ho : o.op = .move x) (hx : ev E x = some v) : Gives P N o E I v := fun a w ha _ => by
 unfold execOp; rw [ho]; simp [ha.eval hx]
theorem gives_assign {x : Operand} {v : Value} (ho : o.op = .assign x) (hx : ev E x = some v) : Gives P N o E I v := fun a w ha _ => by
 unfold execOp; rw [ho]; simp [ha.eval hx]
theorem gives_bin {op : BinOp} {xt yt : TypeId} {x y : Operand} {k k' : IntKind} {m n : Int} {v : Value} (ho : o.op = .binOp op xt x y yt) (hx : ev E x = some (.int k m)) (hy : ev E y = some (.int k' n))
  (hv : ∀ w : World, (binOp op xt (.int k m) (.int k' n)).run P w = .ok v w) : Gives P N o E I v := fun a w ha _ => by
 have hgd : (eqGuard op xt x y (.int k m) (.int k' n)).run P w = .ok () w := by
  cases op <;> simp [eqGuard]
 unfold execOp; rw [ho]
 simp only [ha.eval hx, ha.eval hy, Sem.run_bind, hgd, Result.andThen_ok, hv, Sem.run_pure]
theorem bin_add {xt : TypeId} {k : IntKind} {m n : Int} (w : World) : (binOp .add xt (.int k m) (.int k n)).run P w = .ok (.int k (k.wrap (m + n))) w := by simp [binOp, go_sem]
theorem bin_bits {op : BinOp} {xt : TypeId} {k : IntKind} {m n : Int} (h : op = .and ∨ op = .or ∨ op = .xor) (w : World) : (binOp op xt (.int k m) (.int k n)).run P w = .ok (.int k (bits op k m n)) w := by
 rcases h with rfl | rfl | rfl <;> simp [binOp, go_sem]
theorem gives_not {xt : TypeId} {x : Operand} {k : IntKind} {n : Int} (ho : o.op = .unOp .xor xt x) (hx : ev E x = some (.int k n)) : Gives P N o E I (.int k (bits .xor k (if k.signed then -1 else k.max) n)) := fun a w ha _ => by
 unfold execOp; rw [ho]
 simp only [ha.eval hx]
 simp [Op.unary, go_sem]
theorem gives_at {t : TypeId} {x i : Operand} {vx vi v : Value} (ho : o.op = .indexAddr t x i) (hx : ev E x = some vx) (hi : ev E i = some vi) (hv : ∀ w : World, (Instr.indexAt t vx vi).run P w = .ok v w) : Gives P N o E I v := fun a w ha _ => by
 unfold execOp; rw [ho]
 simp only [ha.eval hx, ha.eval hi, Sem.run_bind, hv, Result.andThen_ok, Sem.run_pure]
theorem gives_load {t : TypeId} {x : Operand} {p : Addr} {v : Value} (ho : o.op = .load t x) (hx : ev E x = some (.pointer (some p))) (hag : ∀ w : World, (isAgg t).run P w = .ok false w) (hc : ∀ w, I w → w.cell? p = some v) : Gives P N o E I v := fun a w ha hw => by
 unfold execOp; rw [ho]
 simp only [ha.eval hx]
 simp [Instr.loadAt, Instr.sureAddr, loadVar, hag, hc w hw, go_sem]
end
/-! ### Calls -/
def evs (E : Env) : List Operand → Option (List Value)
 | [] => some []
 | x :: r => match ev E x, evs E r with
  | some v, some vs => some (v :: vs)
  | _, _ => none
theorem EnvOk.evals {a : Act} (h : EnvOk N E a) : ∀ {xs : List Operand} {vs : List Value}, evs E xs = some vs → xs.map a.eval = vs
 | [], vs, hx => by simp [evs] at hx; simp [hx]
 | x :: r, vs, hx => by
  simp only [evs] at hx
  split at hx
  ·rename_i v vr h1 h2
   injection hx with hx
   subst hx
   simp [h.eval h1, EnvOk.evals h h2]
  ·cases hx
theorem enters {o : Oper} {a : Act} {w : World} {f : FuncId} {fn : Func} {xs : List Operand} {ts : Array TypeId} {vs : List Value} (ha : EnvOk N E a) (ho : o.op = .call { callee := .value (.func f), args := xs.toArray, argTypes := ts }) (hx : evs E xs = some vs)
  (hf : P.funcs[f]? = some fn) (hn : (fn.name == "runtime.NumGoroutine") = false) (hb : fn.body.isNone = false) : (execOp a.eval o).run P w = .ok (.enter f vs.toArray) w := by
 unfold execOp; rw [ho]
 have harr : xs.toArray.map a.eval = vs.toArray := by rw [List.map_toArray, ha.evals hx]
 have hfn : a.eval (.func f) = .func (.func f) #[] #[] := rfl
 simp only [resolve, harr, hfn, Deferred.ofValue]
 have hn' : ¬ fn.name = "runtime.NumGoroutine" := by simpa using hn
 have hb' : ¬ fn.body = none := by intro e; rw [e] at hb; simp at hb
 simp [invoke, callFunc, hf, hn', hb', go_sem]
theorem TQ.call {ops : Array Oper} {l : List Oper} {o : Oper} {R : Act → Prop} {d : Nat} {v : Value} {f : FuncId} {fn : Func} {xs : List Operand} {ts : Array TypeId} {vs : List Value} (hg : o.guard = none) (hd : o.dst = some d) (hN : Nat.blt d N.n = true)
  (ho : o.op = .call { callee := .value (.func f), args := xs.toArray, argTypes := ts }) (hx : evs E xs = some vs) (hf : P.funcs[f]? = some fn) (hn : (fn.name == "runtime.NumGoroutine") = false) (hb : fn.body.isNone = false)
  (hc : ∀ w, I w → Calls P f vs.toArray w fun e w' => e = .returned v ∧ I w') (h : TQ P N ops R l ((d, v) :: E) I) : TQ P N ops R (o :: l) E I := fun a ha => by
 unfold wpQuiet
 rw [if_pos (by simp [Region.wanted, hg])]
 refine ⟨v, fun w hw => ?_, ?_⟩
 ·unfold Oper.quietAt; rw [enters ha ho hx hf hn hb]; exact ⟨rfl, hc w hw⟩
 ·rw [hd]; exact h _ (ha.put d v (by simpa [Nat.blt_eq] using hN))
theorem TL.call {α : Type} {ops : Array Oper} {l : List Oper} {o : Oper} {d : Nat} {f : FuncId} {fn : Func} {xs : List Operand} {ts : Array TypeId} {vs : List Value} {r : α → Value} {I' : α → World → Prop} (hg : o.guard = none) (hd : o.dst = some d) (hN : Nat.blt d N.n = true)
  (ho : o.op = .call { callee := .value (.func f), args := xs.toArray, argTypes := ts }) (hx : evs E xs = some vs) (hf : P.funcs[f]? = some fn) (hn : (fn.name == "runtime.NumGoroutine") = false) (hb : fn.body.isNone = false)
  (hc : ∀ w, I w → Calls P f vs.toArray w fun e w' => ∃ x, e = .returned (r x) ∧ I' x w') (h : ∀ x, TL P N ops Q l ((d, r x) :: E) (I' x)) : TL P N ops Q (o :: l) E I := fun a w ha hw =>
 wpList_plain hg fun K hK => by
  unfold Oper.wp
  rw [enters ha ho hx hf hn hb, Oper.upon_enter]
  refine (hc w hw).mono ?_
  rintro e w' ⟨x, rfl, hI⟩
  show K (a.put o.dst (r x)) w'
  rw [hd]
  exact hK _ _ (h x _ _ (ha.put d _ (by simpa [Nat.blt_eq] using hN)) hI)
/-! ### One piece of code after the other -/
theorem TC.seq_ {x y : Code} (h : TC P N (Exit.then (y.wp P Q) Q) x E I) : TC P N Q (.seq x y) E I := fun a w ha hw => wp_seq (h a w ha hw)
theorem TL.nil_then {ops : Array Oper} {y : Code} (h : TC P N Q y E I) : TL P N ops (Exit.then (y.wp P Q) Q) [] E I := fun a w ha hw => h a w ha hw
theorem TC.skip_then {y : Code} (h : TC P N Q y E I) : TC P N (Exit.then (y.wp P Q) Q) .skip E I := fun a w ha hw => wp_skip (h a w ha hw)
theorem TL.nil_block {ops : Array Oper} {y : Code} {id : Nat} (h : TC P N Q y E I) : TL P N ops (Exit.inBlock id (Exit.then (y.wp P Q) Q)) [] E I := fun a w ha hw => h a w ha hw
theorem TC.quiet_then {id : Nat} {l : List Oper} {y : Code} {E' : Env} (hm : P.follows .mixedOrders = true) (hB : Region.lexB .any l.toArray = true) (hI : ∀ w, I w → I { w with drawn := w.drawn + 1 })
  (h : TQ P N l.toArray (EnvOk N E') l E I) (hy : TC P N Q y E' I) : TC P N (Exit.then (y.wp P Q) Q) (.region id l.toArray true) E I :=
 TC.quiet hm hB hI h fun a w ha hw => hy a w ha hw
theorem bin_lss {xt : TypeId} {k : IntKind} {m n : Int} (w : World) : (binOp .lss xt (.int k m) (.int k n)).run P w = .ok (.bool (decide (m < n))) w := by simp [binOp, go_sem]
theorem gives_run {o : Oper} {v : Value} (h : ∀ a w, EnvOk N E a → (execOp a.eval o).run P w = .ok (.value v) w) : Gives P N o E I v := fun a w ha _ => h a w ha
theorem gives_index {o : Oper} {t : TypeId} {x i : Operand} {vx vi v : Value} (ho : o.op = .index t x i) (hx : ev E x = some vx) (hi : ev E i = some vi) (hv : ∀ w : World, (Instr.index t vx vi).run P w = .ok v w) : Gives P N o E I v := fun a w ha _ => by
 unfold execOp; rw [ho]
 simp only [ha.eval hx, ha.eval hi, Sem.run_bind, hv, Result.andThen_ok, Sem.run_pure]
theorem at_arr {t e : TypeId} {n : Nat} (ht : P.underlying t = some (.array n e)) (hs : ∀ w : World, (sizeOf e).run P w = .ok 1 w) (g off : Nat) (k : IntKind) (j : Nat) (hj : j < n) (w : World) : (Instr.indexAt t (.pointer (some ⟨g, off, none⟩)) (.int k (j : Int))).run P w = .ok (.pointer (some ⟨g, off + j, none⟩)) w := by
 have hadd : (⟨g, off, none⟩ : Addr).add j = ⟨g, off + j, none⟩ := by unfold Addr.add; split <;> simp_all
 simp [Instr.indexAt, run_underlying ht, Instr.sureAddr, asIntOf, hs, hadd, go_sem]
 omega
/-! ### A region of reads and quiet calls before a tail in one order -/
def TS (P : Program) (N : Fr) (ops : Array Oper) (R : Act → World → Prop) (l : List Oper) (E : Env) (I : World → Prop) : Prop := ∀ a w, EnvOk N E a → I w → wpStill P ops w (fun a' => R a' w) l a
theorem TS.nil {ops : Array Oper} {R : Act → World → Prop} (h : ∀ a w, EnvOk N E a → I w → R a w) : TS P N ops R [] E I := fun a w ha hw => h a w ha hw
theorem TS.val {ops : Array Oper} {l : List Oper} {o : Oper} {R : Act → World → Prop} {d : Nat} {v : Value} (hg : o.guard = none) (hd : o.dst = some d) (hN : Nat.blt d N.n = true) (hv : Gives P N o E I v) (h : TS P N ops R l ((d, v) :: E) I) : TS P N ops R (o :: l) E I := fun a w ha hw => by
 unfold wpStill
 rw [if_pos (by simp [Region.wanted, hg])]
 unfold Oper.still
 rw [hv a w ha hw, Oper.stillUpon_value, hd]
 exact h _ _ (ha.put d v (by simpa [Nat.blt_eq] using hN)) hw
theorem TC.tail {id : Nat} {l : List Oper} (n : Nat) (hm : P.follows .mixedOrders = true) (hB : Region.lexTailB .any l.toArray n = true) (hI : ∀ w, I w → I { w with drawn := w.drawn + 1 })
  (h : TS P N l.toArray (fun a w => wpList P l.toArray Q (l.drop n) a w) (l.take n) E I) : TC P N Q (.region id l.toArray true) E I := fun a w ha hw =>
 wp_region_still_tail n hm hB (h a _ ha (hI w hw))
theorem ret_tmp {fn : Func} {t : Tmp} {v : Value} {R : Ending → World → Prop} (hr : fn.results = #[.tmp t]) (hv : look E t = some v) (hR : ∀ w, I w → R (.returned v) w) (hD : N.ds = [] := by rfl) : ∀ a w, EnvOk N E a → I w → bodyPost P fn R .ret a w := fun a w ha hw =>
 ⟨ha.defers.trans hD, v, by rw [results_tmp hr]; have := ha.slot t v hv; simp [this], hR w hw⟩
theorem begin_ {f : FuncId} {fn : Func} {c : Code} {vs : List Value} {R : Ending → World → Prop} {w : World} (hf : P.funcs[f]? = some fn) (hb : fn.body = some c) (hN : (⟨fn.ntmps, []⟩ : Fr) = N) (hn : Nat.ble vs.length N.n = true)
  (h : TC P N (bodyPost P fn R) c (vs.zipIdx.map fun x => (x.2, x.1)) I) (hw : I w) : Calls P f vs.toArray w R := by
 subst hN
 refine calls_of_wp hf hb (h _ _ ⟨rfl, ?_, ?_⟩ hw)
 ·have : vs.length ≤ fn.ntmps := by simpa [Nat.ble_eq] using hn
  simp; omega
 ·intro t v hv
  have key : ∀ (us : List Value) (k : Nat), look ((us.zipIdx k).map fun x => (x.2, x.1)) t = some v → k ≤ t ∧ us[t - k]? = some v := by
   intro us
   induction us with
   | nil => intro k h; simp [look] at h
   | cons u us ih =>
    intro k h
    simp only [List.zipIdx_cons, List.map_cons, look] at h
    by_cases e : k = t
    ·subst e
     have hb : Nat.beq k k = true := by simp
     rw [hb] at h
     simp at h
     subst h
     simp
    ·have hb : Nat.beq k t = false := by
      cases hq : Nat.beq k t with
      | false => rfl
      | true => exact absurd (Nat.eq_of_beq_eq_true hq) e
     rw [hb] at h
     obtain ⟨h1, h2⟩ := ih (k + 1) h
     refine ⟨by omega, ?_⟩
     rw [show t - k = (t - (k + 1)) + 1 by omega]
     simpa using h2
  obtain ⟨_, h2⟩ := key vs 0 hv
  simp only [Nat.sub_zero] at h2
  have hlt : t < vs.length := (List.getElem?_eq_some_iff.1 h2).1
  simp [Array.getElem?_append, hlt]
  exact (List.getElem?_eq_some_iff.1 h2).2
def Has (E : Env) : Env → Prop
 | [] => True
 | p :: r => look E p.1 = some p.2 ∧ Has E r
theorem look_mem : ∀ {E : Env} {t : Nat} {v : Value}, look E t = some v → (t, v) ∈ E
 | [], t, v, h => by simp [look] at h
 | (k, u) :: r, t, v, h => by
  simp only [look] at h
  by_cases e : Nat.beq k t = true
  ·rw [e] at h
   simp only [cond_true, Option.some.injEq] at h
   have := Nat.eq_of_beq_eq_true e
   subst this h
   exact List.mem_cons_self
  ·have e : Nat.beq k t = false := by cases hq : Nat.beq k t with
    | false => rfl
    | true => exact absurd hq e
   rw [e] at h
   exact List.mem_cons_of_mem _ (look_mem h)
theorem Has.mem {E : Env} : ∀ {E' : Env}, Has E E' → ∀ p ∈ E', look E p.1 = some p.2
 | [], _, p, hp => absurd hp List.not_mem_nil
 | q :: r, h, p, hp => by
  rcases List.mem_cons.1 hp with rfl | hp
  ·exact h.1
  ·exact Has.mem h.2 p hp
theorem EnvOk.of_list {E' : Env} {a : Act} (h : EnvOk N E a) (hE : Has E E') : EnvOk N E' a := h.weak fun t v hv => hE.mem _ (look_mem hv)
def evp (E : Env) : List (Nat × Operand) → Option (List (Nat × Value))
 | [] => some []
 | (i, x) :: r => match ev E x, evp E r with
  | some v, some vs => some ((i, v) :: vs)
  | _, _ => none
theorem EnvOk.evalps {a : Act} (h : EnvOk N E a) : ∀ {xs : List (Nat × Operand)} {vs : List (Nat × Value)}, evp E xs = some vs → xs.map (fun p => (p.1, a.eval p.2)) = vs
 | [], vs, hx => by simp [evp] at hx; simp [hx]
 | (i, x) :: r, vs, hx => by
  simp only [evp] at hx
  split at hx
  ·rename_i v vr h1 h2
   injection hx with hx
   subst hx
   simp [h.eval h1, EnvOk.evalps h h2]
  ·cases hx
theorem gives_build {o : Oper} {t : TypeId} {xs : List (Nat × Operand)} {vs : List (Nat × Value)} {v : Value} (ho : o.op = .build t xs.toArray) (hx : evp E xs = some vs) (hv : ∀ w : World, (Instr.build t vs.toArray).run P w = .ok v w) : Gives P N o E I v := fun a w ha _ => by
 unfold execOp; rw [ho]
 have : xs.toArray.map (fun x => (x.1, a.eval x.2)) = vs.toArray := by rw [List.map_toArray, ha.evalps hx]
 simp only [this, Sem.run_bind, hv, Result.andThen_ok, Sem.run_pure]
theorem TC.quiet_to {id : Nat} {l : List Oper} {y : Code} {E' : Env} (hm : P.follows .mixedOrders = true) (hB : Region.lexB .any l.toArray = true) (hI : ∀ w, I w → I { w with drawn := w.drawn + 1 })
  (h : TQ P N l.toArray (EnvOk N E') l E I) (hy : ∀ a w, EnvOk N E' a → I w → Q .normal a w) : TC P N Q (.region id l.toArray true) E I :=
 TC.quiet hm hB hI h hy
end
end Go.Proofs.Ytleckflmckbheaa

namespace Go.Proofs.Ytleckflmckbheaa
open Go.RowKit
abbrev Own := List (Nat × TypeId × List Value)
structure Mem (w0 : World) (L : Own) (w : World) : Prop where
  bel : Below w0.heap.size w0 w
  own : ∀ x ∈ L, Blk w x.1 x.2.1 x.2.2.toArray ∧ w0.heap.size ≤ x.1
  apart : (L.map (·.1)).Nodup
section
variable {w0 w w' : World} {L : Own}
theorem Mem.at_ (h : Mem w0 L w) {k g : Nat} {t : TypeId} {cs : List Value} (hk : L[k]? = some (g, t, cs)) : Blk w g t cs.toArray ∧ w0.heap.size ≤ g := h.own _ (List.mem_of_getElem? hk)
theorem Mem.cell (h : Mem w0 L w) {k g : Nat} {t : TypeId} {cs : List Value} (hk : L[k]? = some (g, t, cs)) (i : Nat) : w.cell? ⟨g, i, none⟩ = cs[i]? := by
  rw [(h.at_ hk).1.cell i]; simp
theorem Mem.drawn (h : Mem w0 L w) (n : Nat) : Mem w0 L { w with drawn := n } := ⟨⟨h.bel.os, h.bel.tape, h.bel.output, h.bel.size, h.bel.block⟩, h.own, h.apart⟩
theorem Mem.below (h : Mem w0 L w) (hb : Below w.heap.size w w') : Mem w0 L w' :=
  ⟨h.bel.trans (hb.mono h.bel.size), fun x hx => ⟨(h.own x hx).1.below hb (h.own x hx).1.lt, (h.own x hx).2⟩, h.apart⟩
theorem Mem.start (w : World) : Mem w [] w := ⟨Below.refl _ _, (fun x hx => absurd hx List.not_mem_nil), List.nodup_nil⟩
theorem Mem.new (h : Mem w0 L w) (t : TypeId) (cs : List Value) : Mem w0 ((w.heap.size, t, cs) :: L) (w.alloc (.cells cs.toArray t)) := by
  refine ⟨h.bel.alloc h.bel.size _, fun x hx => ?_, ?_⟩
  · rcases List.mem_cons.1 hx with rfl | hx
    · exact ⟨Blk.new _ _ _, h.bel.size⟩
    · exact ⟨(h.own x hx).1.alloc _, (h.own x hx).2⟩
  · simp only [List.map_cons, List.nodup_cons]
    refine ⟨fun hm => ?_, h.apart⟩
    obtain ⟨x, hx, he⟩ := List.mem_map.1 hm
    have := (h.own x hx).1.lt
    omega
def setOwn (L : Own) (k : Nat) (cs : List Value) : Own := L.modify k (fun x => (x.1, x.2.1, cs))
theorem Mem.setRow (h : Mem w0 L w) {k g : Nat} {t : TypeId} {cs : List Value} (hk : L[k]? = some (g, t, cs)) (cs' : List Value) : Mem w0 (setOwn L k cs') (w.setRow g cs'.toArray) := by
  obtain ⟨hb, hg⟩ := h.at_ hk
  have hkeys : (setOwn L k cs').map (·.1) = L.map (·.1) := by
    apply List.ext_getElem?
    intro i
    simp only [setOwn, List.getElem?_map, List.getElem?_modify]
    by_cases e : k = i
    · subst e; simp [hk]
    · simp [e]
  refine ⟨below_setRow h.bel hg _, fun x hx => ?_, by rw [hkeys]; exact h.apart⟩
  obtain ⟨i, hi⟩ := List.getElem?_of_mem hx
  simp only [setOwn, List.getElem?_modify] at hi
  by_cases e : k = i
  · subst e
    simp [hk] at hi
    subst hi
    exact ⟨setRow_heap w g _ _ _ _ hb, hg⟩
  · cases hL : L[i]? with
    | none => simp [hL] at hi
    | some y =>
      simp [hL, e] at hi
      subst hi
      obtain ⟨hy, hyg⟩ := h.own y (List.mem_of_getElem? hL)
      refine ⟨(setRow_other _ _ _ _ ?_).trans hy, hyg⟩
      intro he
      have hn := h.apart
      have h1 : (L.map (·.1))[k]? = some g := by simp [hk]
      have h2 : (L.map (·.1))[i]? = some g := by simp [hL, he]
      exact e ((List.getElem?_inj (by have := (List.getElem?_eq_some_iff.1 h1).1; exact this) hn).1 (h1.trans h2.symm))
end
section
variable {P : Program} {N : Fr} {Q : Exit → Act → World → Prop} {E : Env} {w0 : World} {L : Own} {ops : Array Oper} {l : List Oper} {o : Oper}
theorem TL.new {d : Nat} {t : TypeId} {cs : List Value} (hg : o.guard = none) (hd : o.dst = some d) (hN : Nat.blt d N.n = true)
    (hr : ∀ a w, EnvOk N E a → (execOp a.eval o).run P w = .ok (.value (.pointer (some ⟨w.heap.size, 0, none⟩))) (w.alloc (.cells cs.toArray t)))
    (h : ∀ g, TL P N ops Q l ((d, .pointer (some ⟨g, 0, none⟩)) :: E) (Mem w0 ((g, t, cs) :: L))) : TL P N ops Q (o :: l) E (Mem w0 L) := fun a w ha hw =>
  wpList_plain hg fun K hK => by
    unfold Oper.wp
    rw [hr a w ha]
    show K (a.put o.dst _) _
    rw [hd]
    exact hK _ _ (h _ _ _ (ha.put d _ (by simpa [Nat.blt_eq] using hN)) (hw.new t cs))
theorem run_newVar {t : TypeId} {v : Value} (w : World) : (newVar t v).run P w = .ok ⟨w.heap.size, 0, none⟩ (w.alloc (.cells v.cells t)) := rfl
theorem exec_alloc {t : TypeId} {z : Value} {cs : List Value} (ho : o.op = .alloc t) (hz : ∀ w : World, (zeroValue t).run P w = .ok z w) (hc : z.cells = cs.toArray) (a : Act) (w : World) (ha : EnvOk N E a) :
    (execOp a.eval o).run P w = .ok (.value (.pointer (some ⟨w.heap.size, 0, none⟩))) (w.alloc (.cells cs.toArray t)) := by
  unfold execOp; rw [ho]
  simp only [Instr.alloc, Sem.run_bind, hz, Result.andThen_ok, run_newVar, hc, Sem.run_pure]
theorem exec_box {t : TypeId} {x : Operand} {v : Value} {cs : List Value} (ho : o.op = .box t x) (hx : ev E x = some v) (hc : v.cells = cs.toArray) (a : Act) (w : World) (ha : EnvOk N E a) :
    (execOp a.eval o).run P w = .ok (.value (.pointer (some ⟨w.heap.size, 0, none⟩))) (w.alloc (.cells cs.toArray t)) := by
  unfold execOp; rw [ho]
  simp only [ha.eval hx]
  simp only [Instr.box, Sem.run_bind, Result.andThen_ok, run_newVar, hc, Sem.run_pure]
theorem TL.store {t te : TypeId} {x y : Operand} {g off k : Nat} {v : Value} {cs vs : List Value} (hg : o.guard = none) (hd : o.dst = none) (ho : o.op = .store t x y) (hx : ev E x = some (.pointer (some ⟨g, off, none⟩))) (hy : ev E y = some v)
    (hk : L[k]? = some (g, te, cs)) (hv : v.cells = vs.toArray) (hs : ∀ w : World, (sizeOf t).run P w = .ok vs.length w) (h1 : ∀ u ∈ vs, u.oneCell' = true) (hl : off + vs.length ≤ cs.length) {L' : Own} (hL : setOwn L k (cs.take off ++ vs ++ cs.drop (off + vs.length)) = L')
    (h : TL P N ops Q l E (Mem w0 L')) : TL P N ops Q (o :: l) E (Mem w0 L) := fun a w ha hw =>
  wpList_plain hg fun K hK => by
    have hrun : (execOp a.eval o).run P w = .ok .skip (w.setRow g (cs.take off ++ vs ++ cs.drop (off + vs.length)).toArray) := by
      unfold execOp; rw [ho]
      simp only [ha.eval hx, ha.eval hy]
      have hst := run_storeCells_at (P := P) g off te vs 0 cs.toArray w (hw.at_ hk).1 (by simpa using hl) h1
      simp only [Nat.add_zero] at hst
      have hsv : (storeVar t ⟨g, off, none⟩ v).run P w = .ok () (w.setRow g (cs.take off ++ vs ++ cs.drop (off + vs.length)).toArray) := by
        unfold storeVar
        simp only [Sem.run_bind, hs, Result.andThen_ok, hv]
        simpa [Result.andThen] using hst
      simp only [Instr.storeAt, Instr.sureAddr, Sem.run_bind, Sem.run_pure, Result.andThen_ok, hsv]
    unfold Oper.wp
    rw [hrun]
    show K (a.put o.dst undef) _
    rw [hd]
    exact hK _ _ (h _ _ (ha.put0 _) (hL ▸ hw.setRow hk _))
theorem mem_load {t te : TypeId} {x : Operand} {g i k : Nat} {v : Value} {cs : List Value} (ho : o.op = .load t x) (hx : ev E x = some (.pointer (some ⟨g, i, none⟩))) (hag : ∀ w : World, (isAgg t).run P w = .ok false w)
    (hk : L[k]? = some (g, te, cs)) (hi : cs[i]? = some v) : Gives P N o E (Mem w0 L) v := gives_load ho hx hag fun w hw => (hw.cell hk i).trans hi
theorem mem_loadAgg {t te : TypeId} {x : Operand} {g i k n : Nat} {cs : List Value} (ho : o.op = .load t x) (hx : ev E x = some (.pointer (some ⟨g, i, none⟩))) (hag : ∀ w : World, (isAgg t).run P w = .ok true w) (hs : ∀ w : World, (sizeOf t).run P w = .ok n w)
    (hk : L[k]? = some (g, te, cs)) (hi : i + n ≤ cs.length) : Gives P N o E (Mem w0 L) (.agg ((cs.drop i).take n).toArray) := fun a w ha hw => by
  unfold execOp; rw [ho]
  simp only [ha.eval hx]
  have hlen : ((cs.drop i).take n).length = n := by simp; omega
  have hl := run_loadCells_list (P := P) w ⟨g, i, none⟩ ((cs.drop i).take n) (fun j v hj => by
    have hadd : (⟨g, i, none⟩ : Addr).add j = ⟨g, i + j, none⟩ := by unfold Addr.add; split <;> simp_all
    rw [hadd, hw.cell hk (i + j)]
    simp only [List.getElem?_take, List.getElem?_drop] at hj
    split at hj
    · exact hj
    · cases hj)
  rw [hlen] at hl
  simp only [Instr.loadAt, Instr.sureAddr, Sem.run_bind, Sem.run_pure, Result.andThen_ok, loadVar, hag, hs, hl, if_true]
theorem ret_cell {fn : Func} {p : Tmp} {t te : TypeId} {g k : Nat} {cs : List Value} {d : TypeDesc} {R : Ending → World → Prop} (hr : fn.results = #[.cell p t]) (hp : look E p = some (.pointer (some ⟨g, 0, none⟩))) (hk : L[k]? = some (g, te, cs))
    (hu : P.underlying t = some d) (hd : (match d with | .struct _ | .array _ _ => true | _ => false) = true) (hi : (P.info? t).map (·.size) = some cs.length) (hR : ∀ w, Mem w0 L w → R (.returned (.agg cs.toArray)) w) (hD : N.ds = [] := by rfl) :
    ∀ a w, EnvOk N E a → Mem w0 L w → bodyPost P fn R .ret a w := fun a w ha hw =>
  ⟨ha.defers.trans hD, .agg cs.toArray, results_cell_row hr a.tmps w g te cs.toArray (0, 0) d (by have := ha.slot p _ hp; simp [this]) (hw.at_ hk).1 hu hd (by simpa using hi), hR w hw⟩
theorem old_loadAgg {t te : TypeId} {x : Operand} {g : Nat} {cs : Array Value} {d : TypeDesc} (ho : o.op = .load t x) (hx : ev E x = some (.pointer (some ⟨g, 0, none⟩))) (hb : Blk w0 g te cs)
    (hu : P.underlying t = some d) (hd : (match d with | .struct _ | .array _ _ => true | _ => false) = true) (hi : (P.info? t).map (·.size) = some cs.size) : Gives P N o E (Mem w0 L) (.agg cs) := fun a w ha hw => by
  unfold execOp; rw [ho]
  simp only [ha.eval hx]
  have := run_loadVar_row (P := P) w g te t cs (0, 0) d (hb.below hw.bel hb.lt) hu hd hi
  simp only [Instr.loadAt, Instr.sureAddr, Sem.run_bind, Sem.run_pure, Result.andThen_ok, this]
theorem TL.call1 {d : Nat} {f : FuncId} {fn : Func} {xs : List Operand} {ts : Array TypeId} {vs : List Value} {r : Value} (hg : o.guard = none) (hd : o.dst = some d) (hN : Nat.blt d N.n = true)
    (ho : o.op = .call { callee := .value (.func f), args := xs.toArray, argTypes := ts }) (hx : evs E xs = some vs) (hf : P.funcs[f]? = some fn) (hn : (fn.name == "runtime.NumGoroutine") = false) (hb : fn.body.isNone = false)
    (hc : ∀ w, Mem w0 L w → Calls P f vs.toArray w fun e w' => e = .returned r ∧ Below w.heap.size w w') (h : TL P N ops Q l ((d, r) :: E) (Mem w0 L)) : TL P N ops Q (o :: l) E (Mem w0 L) :=
  TL.call (α := Unit) (r := fun _ => r) (I' := fun _ => Mem w0 L) hg hd hN ho hx hf hn hb (fun w hw => (hc w hw).mono fun e w' ⟨he, hb⟩ => ⟨(), he, hw.below hb⟩) (fun _ => h)
theorem TC.loop {c : Code} {α : Type} {I : World → Prop} (E' : α → Env) (I' : α → World → Prop) (m : α → Nat) (x0 : α) (h0 : ∀ a w, EnvOk N E a → I w → EnvOk N (E' x0) a ∧ I' x0 w)
    (step : ∀ x, TC P N (Exit.then (fun a w => ∃ y, m y < m x ∧ EnvOk N (E' y) a ∧ I' y w) Q) c (E' x) (I' x)) : TC P N Q (.loop c) E I := fun a w ha hw =>
  wp_loop_ghost (fun n a w => ∃ x, m x = n ∧ EnvOk N (E' x) a ∧ I' x w) (m x0) ⟨x0, rfl, (h0 a w ha hw).1, (h0 a w ha hw).2⟩ fun n a w ⟨x, hx, h1, h2⟩ =>
    Code.wp_mono (fun e a' w' q => by
      cases e with
      | normal => obtain ⟨y, hy, hE, hI⟩ := q; exact ⟨m y, by omega, y, rfl, hE, hI⟩
      | _ => exact q) (step x a w h1 h2)
end
end Go.Proofs.Ytleckflmckbheaa

namespace Go.Proofs.Ytleckflmckbheaa
open Go.RowKit
inductive Pc where
  | blk (g : Nat) (t : TypeId) (cs : List Value)
  | row (v : Value) (e : TypeId) (size n : Nat) (xs : List Value)
  | oth (k : Nat) (o : Obj)
  | abs (g : Nat) (p : World → Prop)
def Pc.isAbs : Pc → Bool
  | .abs _ _ => true
  | _ => false
def noAbs (l : List Pc) : Bool := l.all fun p => !p.isAbs
def Pc.key : Pc → Option Nat
  | .blk g _ _ => some g
  | .row v _ _ _ _ => v.ownBlock
  | .oth k _ => some k
  | .abs g _ => some g
def Pc.ok (B : Nat) (w : World) : Pc → Prop
  | .blk g t cs => Blk w g t cs.toArray ∧ B ≤ g
  | .row v e size n xs => w.ownsRow B e size v n xs
  | .oth k o => w.heap[k]? = some o ∧ B ≤ k
  | .abs g p => p w ∧ B ≤ g ∧ (∃ o : Obj, w.heap[g]? = some o ∧ o.isCells = true) ∧ ∀ w1 w2 : World, p w1 → (∀ k, k < B ∨ k = g → w2.heap[k]? = w1.heap[k]?) → p w2
theorem Pc.lt {B : Nat} {w : World} {p : Pc} (h : p.ok B w) : ∀ g, p.key = some g → B ≤ g ∧ g < w.heap.size := by
  intro g hg
  cases p with
  | blk g' t cs =>
    simp only [Pc.key, Option.some.injEq] at hg
    subst hg
    exact ⟨h.2, h.1.lt⟩
  | row v e size n xs => exact World.ownsRow.lt h g hg
  | oth k o =>
    simp only [Pc.key, Option.some.injEq] at hg
    subst hg
    exact ⟨h.2, (Array.getElem?_eq_some_iff.1 h.1).1⟩
  | abs g' p =>
    simp only [Pc.key, Option.some.injEq] at hg
    subst hg
    obtain ⟨_, h2, ⟨o, ho, _⟩, _⟩ := h
    exact ⟨h2, (Array.getElem?_eq_some_iff.1 ho).1⟩
theorem Pc.same {B : Nat} {w w' : World} {p : Pc} (h : p.ok B w) (hs : ∀ g, p.key = some g → w'.heap[g]? = w.heap[g]?) (hB : ∀ k, k < B → w'.heap[k]? = w.heap[k]?) : p.ok B w' := by
  cases p with
  | blk g t cs => exact ⟨(hs g rfl).trans h.1, h.2⟩
  | row v e size n xs =>
    refine ⟨h.1, ?_⟩
    rcases h.2 with h | ⟨g, cap, cur, a, b, hg, r⟩
    · exact .inl h
    · exact .inr ⟨g, cap, cur, a, b, (hs g (by rw [a]; rfl)).trans hg, r⟩
  | oth k o => exact ⟨(hs k rfl).trans h.1, h.2⟩
  | abs g p =>
    obtain ⟨h1, h2, ⟨o, ho, hc⟩, h4⟩ := h
    exact ⟨h4 _ _ h1 fun k hk => hk.elim (hB k) (fun e => by subst e; exact hs k rfl), h2, ⟨o, (hs g rfl).trans ho, hc⟩, h4⟩
def keys : List Pc → List Nat
  | [] => []
  | p :: r => match p.key with
    | some g => g :: keys r
    | none => keys r
structure Base where
  w : World
  b : Nat
instance : Coe World Base := ⟨fun w => ⟨w, w.heap.size⟩⟩
def Others (w w' : World) : Prop := KeepsOthers w w'
structure Pm (w0 : Base) (L : List Pc) (w : World) : Prop where
  bel : Below w0.b w0.w w
  own : ∀ p ∈ L, p.ok w0.b w
  apart : L.Pairwise fun p q => ∀ g, p.key = some g → q.key ≠ some g
  oth : KeepsOthers w0.w w
  low : w0.b ≤ w0.w.heap.size
section
variable {w0 : Base} {w w' : World} {L : List Pc}
theorem Pm.base (h : Pm w0 L w) : w0.b ≤ w.heap.size := Nat.le_trans h.low h.bel.size
theorem others_below {w w' : World} (h : Below w.heap.size w w') : KeepsOthers w w' := ⟨h.size, fun k o hk _ => (h.block k (Array.getElem?_eq_some_iff.1 hk).1).trans hk⟩
theorem Pm.start (w : World) : Pm w [] w := ⟨Below.refl _ _, (fun x hx => absurd hx List.not_mem_nil), List.Pairwise.nil, KeepsOthers.refl w, Nat.le_refl _⟩
theorem Pm.drawn (h : Pm w0 L w) (n : Nat) : Pm w0 L { w with drawn := n } := ⟨⟨h.bel.os, h.bel.tape, h.bel.output, h.bel.size, h.bel.block⟩, fun p hp => Pc.same (h.own p hp) (fun _ _ => rfl) (fun _ _ => rfl), h.apart, ⟨h.oth.size, h.oth.same⟩, h.low⟩
theorem Pm.at_ (h : Pm w0 L w) {k : Nat} {p : Pc} (hk : L[k]? = some p) : p.ok w0.b w := h.own _ (List.mem_of_getElem? hk)
theorem Pm.below (h : Pm w0 L w) (hb : Below w.heap.size w w') : Pm w0 L w' :=
  ⟨h.bel.trans (hb.mono h.base), fun p hp => Pc.same (h.own p hp) (fun g hg => hb.block g (Pc.lt (h.own p hp) g hg).2) (fun k hk => hb.block k (Nat.lt_of_lt_of_le hk h.base)), h.apart, h.oth.trans (others_below hb), h.low⟩
theorem Pm.add (h : Pm w0 L w) (hb : Below w.heap.size w w') {p : Pc} (hp : p.ok w.heap.size w') (hna : p.isAbs = false := by rfl) : Pm w0 (p :: L) w' := by
  have h' := h.below hb
  refine ⟨h'.bel, fun q hq => ?_, List.Pairwise.cons (fun q hq g hg he => ?_) h.apart, h'.oth, h.low⟩
  · rcases List.mem_cons.1 hq with rfl | hq
    · cases q with
      | blk g t cs => exact ⟨hp.1, Nat.le_trans h.base hp.2⟩
      | row v e size n xs => exact own_base hp h.base
      | oth k o => exact ⟨hp.1, Nat.le_trans h.base hp.2⟩
      | abs g p => cases hna
    · exact h'.own q hq
  · have h1 := (Pc.lt hp g hg).1
    have h2 := (Pc.lt (h.own q hq) g he).2
    omega
theorem Pm.new (h : Pm w0 L w) (t : TypeId) (cs : List Value) : Pm w0 (.blk w.heap.size t cs :: L) (w.alloc (.cells cs.toArray t)) :=
  h.add ((Below.refl _ _).alloc (Nat.le_refl _) _) ⟨Blk.new _ _ _, Nat.le_refl _⟩
theorem Pm.from_ (h : Pm w0 L w) : Pm ⟨w, w0.b⟩ L w := ⟨Below.refl _ _, h.own, h.apart, KeepsOthers.refl w, h.base⟩
theorem Pm.trans {L' : List Pc} (h : Pm w0 L w) (h' : Pm ⟨w, w0.b⟩ L' w') : Pm w0 L' w' := ⟨h.bel.trans h'.bel, h'.own, h'.apart, h.oth.trans h'.oth, h.low⟩
theorem Pc.cells {bb : Nat} {w : World} {p : Pc} (h : p.ok bb w) (hp : ∀ k o, p = .oth k o → False) : ∀ g, p.key = some g → ∃ o, w.heap[g]? = some o ∧ o.isCells = true := by
  intro g hg
  cases p with
  | blk g' t cs =>
    simp only [Pc.key, Option.some.injEq] at hg
    subst hg
    exact ⟨_, h.1, rfl⟩
  | row v e size n xs =>
    rcases h.2 with ⟨rfl, _⟩ | ⟨g', cap, cur, a, b, hg', r⟩
    · simp [Pc.key, Value.ownBlock] at hg
    · have : v.ownBlock = some g := hg
      rw [a] at this
      simp only [Value.ownBlock, Option.some.injEq] at this
      subst this
      exact ⟨_, hg', rfl⟩
  | oth k o => exact (hp k o rfl).elim
  | abs g' p =>
    simp only [Pc.key, Option.some.injEq] at hg
    subst hg
    exact h.2.2.1
theorem Pm.turn (h : Pm w0 L w) {k : Nat} {p p' : Pc} (hk : L[k]? = some p) (hg : w.grownBy w' p.key) (hp : p'.ok w0.b w') (hkey : ∀ g, p'.key = some g → p.key = some g ∨ w.heap.size ≤ g) (hc : ∀ k o, p = .oth k o → False) : Pm w0 (L.set k p') w' := by
  have hpo := h.at_ hk
  refine ⟨(h.bel).grown hg h.base fun g hg => (Pc.lt hpo g hg).1, fun q hq => ?_, ?_, h.oth.trans (KeepsOthers.of_grownBy hg fun j o hj ho => ?_), h.low⟩
  · obtain ⟨i, hi⟩ := List.getElem?_of_mem hq
    rw [List.getElem?_set] at hi
    by_cases e : k = i
    · subst e
      have hlt := (List.getElem?_eq_some_iff.1 hk).1
      simp [hlt] at hi
      subst hi
      exact hp
    · rw [if_neg e] at hi
      refine Pc.same (h.at_ hi) (fun g hgq => hg.block g (Pc.lt (h.at_ hi) g hgq).2 fun he => ?_) (fun k' hk' => hg.block k' (Nat.lt_of_lt_of_le hk' h.base) fun he => ?_)
      rotate_left
      · have := (Pc.lt hpo k' he.symm).1
        omega
      have hlt := (List.getElem?_eq_some_iff.1 hk).1
      have hlt' := (List.getElem?_eq_some_iff.1 hi).1
      have ek := (List.getElem?_eq_some_iff.1 hk).2
      have ei := (List.getElem?_eq_some_iff.1 hi).2
      rcases Nat.lt_or_gt_of_ne e with h1 | h1
      · exact List.pairwise_iff_getElem.1 h.apart k i hlt hlt' h1 g (by rw [ek]; exact he.symm) (by rw [ei]; exact hgq)
      · exact List.pairwise_iff_getElem.1 h.apart i k hlt' hlt h1 g (by rw [ei]; exact hgq) (by rw [ek]; exact he.symm)
  · refine List.pairwise_iff_getElem.2 fun i j hi hj hij g hgi hgj => ?_
    have hlk := (List.getElem?_eq_some_iff.1 hk).1
    have ek := (List.getElem?_eq_some_iff.1 hk).2
    have hi' : i < L.length := by simpa using hi
    have hj' : j < L.length := by simpa using hj
    have hap := List.pairwise_iff_getElem.1 h.apart
    rw [List.getElem_set] at hgi hgj
    by_cases e1 : k = i
    · subst e1
      rw [if_pos rfl] at hgi
      rw [if_neg (by omega)] at hgj
      rcases hkey g hgi with h1 | h1
      · exact hap k j hi' hj' hij g (by rw [ek]; exact h1) hgj
      · have := (Pc.lt (h.own _ (List.getElem_mem hj')) g hgj).2
        omega
    · rw [if_neg e1] at hgi
      by_cases e2 : k = j
      · subst e2
        rw [if_pos rfl] at hgj
        rcases hkey g hgj with h1 | h1
        · exact hap i k hi' hj' hij g hgi (by rw [ek]; exact h1)
        · have := (Pc.lt (h.own _ (List.getElem_mem hi')) g hgi).2
          omega
      · rw [if_neg e2] at hgj
        exact hap i j hi' hj' hij g hgi hgj
  · obtain ⟨o', h1, h2⟩ := Pc.cells hpo hc j hj
    rw [ho] at h1
    injection h1 with h1
    rw [h1]; exact h2
theorem grown_setRow {g : Nat} (cs : Array Value) (w : World) : w.grownBy (w.setRow g cs) (some g) := by
  refine ⟨rfl, rfl, rfl, ?_, fun k hk hne => ?_⟩
  · simp [World.setRow]
  · have : k ≠ g := fun e => hne (by rw [e])
    simp [World.setRow, Array.getElem?_modify, this.symm]
theorem Pm.setRow (h : Pm w0 L w) {k g : Nat} {t : TypeId} {cs : List Value} (hk : L[k]? = some (.blk g t cs)) (cs' : List Value) : Pm w0 (L.set k (.blk g t cs')) (w.setRow g cs'.toArray) := by
  obtain ⟨hb, hg⟩ := h.at_ hk
  exact h.turn hk (grown_setRow _ _) ⟨setRow_heap w g _ _ _ _ hb, hg⟩ (fun g' hg' => .inl hg') (fun k o e => by cases e)
theorem Pm.cell (h : Pm w0 L w) {k g : Nat} {t : TypeId} {cs : List Value} (hk : L[k]? = some (.blk g t cs)) (i : Nat) : w.cell? ⟨g, i, none⟩ = cs[i]? := by
  rw [(h.at_ hk).1.cell i]; simp
end
end Go.Proofs.Ytleckflmckbheaa

namespace Go.Proofs.Ytleckflmckbheaa
open Go.RowKit
section
variable {P : Program} {N : Fr} {Q : Exit → Act → World → Prop} {E : Env} {w0 : Base} {L : List Pc} {ops : Array Oper} {l : List Oper} {o : Oper}
theorem TL.run {I : World → Prop} {α : Type} {d : Nat} {r : α → Value} {I' : α → World → Prop} (hg : o.guard = none) (hd : o.dst = some d) (hN : Nat.blt d N.n = true)
    (hr : ∀ a w, EnvOk N E a → I w → ∃ x w', (execOp a.eval o).run P w = .ok (.value (r x)) w' ∧ I' x w')
    (h : ∀ x, TL P N ops Q l ((d, r x) :: E) (I' x)) : TL P N ops Q (o :: l) E I := fun a w ha hw =>
  wpList_plain hg fun K hK => by
    obtain ⟨x, w', hx, hI⟩ := hr a w ha hw
    unfold Oper.wp
    rw [hx]
    show K (a.put o.dst _) _
    rw [hd]
    exact hK _ _ (h x _ _ (ha.put d _ (by simpa [Nat.blt_eq] using hN)) hI)
theorem TL.pnew {d : Nat} {t : TypeId} {cs : List Value} (hg : o.guard = none) (hd : o.dst = some d) (hN : Nat.blt d N.n = true)
    (hr : ∀ a w, EnvOk N E a → (execOp a.eval o).run P w = .ok (.value (.pointer (some ⟨w.heap.size, 0, none⟩))) (w.alloc (.cells cs.toArray t)))
    (h : ∀ g, TL P N ops Q l ((d, .pointer (some ⟨g, 0, none⟩)) :: E) (Pm w0 (.blk g t cs :: L))) : TL P N ops Q (o :: l) E (Pm w0 L) :=
  TL.run (α := Nat) (r := fun g => .pointer (some ⟨g, 0, none⟩)) (I' := fun g => Pm w0 (.blk g t cs :: L)) hg hd hN (fun a w ha hw => ⟨w.heap.size, _, hr a w ha, hw.new t cs⟩) h
theorem TL.prow {d : Nat} {t e : TypeId} {n : Nat} {xs : List (Nat × Operand)} {vs : List (Nat × Value)} {cs : List Value} (hg : o.guard = none) (hd : o.dst = some d) (hN : Nat.blt d N.n = true)
    (ho : o.op = .buildSlice t n xs.toArray) (hx : evp E xs = some vs) (hr : ∀ w : World, (Instr.buildSlice t n vs.toArray).run P w = .ok (.slice (some ⟨w.heap.size, 0, none⟩) n n) (w.alloc (.cells cs.toArray e))) (hn : n ≤ maxLen) (hc : cs.length = n * 1)
    (h : ∀ g, TL P N ops Q l ((d, .slice (some ⟨g, 0, none⟩) n n) :: E) (Pm w0 (.row (.slice (some ⟨g, 0, none⟩) n n) e 1 n cs :: L))) : TL P N ops Q (o :: l) E (Pm w0 L) :=
  TL.run (α := Nat) (r := fun g => .slice (some ⟨g, 0, none⟩) n n) (I' := fun g => Pm w0 (.row (.slice (some ⟨g, 0, none⟩) n n) e 1 n cs :: L)) hg hd hN (fun a w ha hw => by
    refine ⟨w.heap.size, w.alloc (.cells cs.toArray e), ?_, hw.add ((Below.refl _ _).alloc (Nat.le_refl _) _) ⟨hc, .inr ⟨w.heap.size, n, cs.toArray, rfl, Nat.le_refl _, heap_alloc_new w _, Nat.le_refl _, hn, by simpa using hc, ?_⟩⟩⟩
    · unfold execOp; rw [ho]
      have : xs.toArray.map (fun x => (x.1, a.eval x.2)) = vs.toArray := by rw [List.map_toArray, ha.evalps hx]
      simp only [this, Sem.run_bind, hr, Result.andThen_ok, Sem.run_pure]
    · simp [← hc]) h
theorem TL.append {d k : Nat} {s x : Operand} {t e : TypeId} {size bytes n c m cc : Nat} {A0 A : Option Addr} {olds news : List Value} (hg : o.guard = none) (hd : o.dst = some d) (hN : Nat.blt d N.n = true)
    (ho : o.op = .call { callee := .builtin .append, args := #[s, x], argTypes := #[t, t] }) (hE : Elem P t e size bytes) (hs : ev E s = some (.slice A0 n c)) (hx : ev E x = some (.slice A m cc))
    (hk : L[k]? = some (.row (.slice A0 n c) e size n olds)) (hr : ∀ w, Pm w0 L w → ∃ B, Reads w B size A m news) (h1 : ∀ u ∈ news, u.oneCell' = true) (hlim : (n + m) * bytes ≤ 140737488355328) (M : Nat) (hM : M = n + m)
    (h : ∀ A' c', M ≤ c' → c' ≤ maxLen → TL P N ops Q l ((d, .slice A' M c') :: E) (Pm w0 (L.set k (.row (.slice A' M c') e size M (olds ++ news))))) : TL P N ops Q (o :: l) E (Pm w0 L) := by
  subst hM
  refine TL.run (α := { p : Option Addr × Nat // n + m ≤ p.2 ∧ p.2 ≤ maxLen }) (r := fun p => .slice p.1.1 (n + m) p.1.2) (I' := fun p => Pm w0 (L.set k (.row (.slice p.1.1 (n + m) p.1.2) e size (n + m) (olds ++ news)))) hg hd hN (fun a w ha hw => ?_) (fun p => h p.1.1 p.1.2 p.2.1 p.2.2)
  obtain ⟨i, z, hi, hz, hsz, hby, hzs⟩ := hE.info
  obtain ⟨B, hrd⟩ := hr w hw
  have hmx : n + m ≤ maxLen := by
    have : n + m ≤ (n + m) * bytes := Nat.le_mul_of_pos_right _ hE.big
    unfold maxLen; omega
  obtain ⟨v', w', hrun, hown', hgr, hkey⟩ := run_append_any (P := P) w w0.b t o.type e i z size bytes hE.und hi hz hsz hby hzs hE.pos _ n olds (hw.at_ hk) B A m cc news hrd h1 hmx hlim hw.base
  obtain ⟨A', c', rfl, hc1, hc2⟩ := own_shape hown'
  refine ⟨⟨(A', c'), hc1, hc2⟩, w', ?_, hw.turn hk hgr hown' (fun g hg => ?_) (fun k o e => ?_)⟩
  · unfold execOp; rw [ho]
    simp only [resolve, invoke, builtin, Sem.run_bind, Sem.run_pure, Result.andThen_ok, List.map_toArray, List.map_cons, List.map_nil, ha.eval hs, ha.eval hx, hrun]
  · rcases hkey with hkey | hkey
    · exact .inl (hkey.symm.trans hg)
    · right
      have : (Value.slice A' (n + m) c').ownBlock = some g := hg
      rw [hkey] at this
      injection this with this
      omega
  · cases e
theorem TL.pstore {t te : TypeId} {x y : Operand} {g off k : Nat} {v : Value} {cs vs : List Value} (hg : o.guard = none) (hd : o.dst = none) (ho : o.op = .store t x y) (hx : ev E x = some (.pointer (some ⟨g, off, none⟩))) (hy : ev E y = some v)
    (hk : L[k]? = some (.blk g te cs)) (hv : v.cells = vs.toArray) (hs : ∀ w : World, (sizeOf t).run P w = .ok vs.length w) (h1 : ∀ u ∈ vs, u.oneCell' = true) (hl : off + vs.length ≤ cs.length) {L' : List Pc} (hL : L.set k (.blk g te (cs.take off ++ vs ++ cs.drop (off + vs.length))) = L')
    (h : TL P N ops Q l E (Pm w0 L')) : TL P N ops Q (o :: l) E (Pm w0 L) := fun a w ha hw =>
  wpList_plain hg fun K hK => by
    have hrun : (execOp a.eval o).run P w = .ok .skip (w.setRow g (cs.take off ++ vs ++ cs.drop (off + vs.length)).toArray) := by
      unfold execOp; rw [ho]
      simp only [ha.eval hx, ha.eval hy]
      have hst := run_storeCells_at (P := P) g off te vs 0 cs.toArray w (hw.at_ hk).1 (by simpa using hl) h1
      simp only [Nat.add_zero] at hst
      have hsv : (storeVar t ⟨g, off, none⟩ v).run P w = .ok () (w.setRow g (cs.take off ++ vs ++ cs.drop (off + vs.length)).toArray) := by
        unfold storeVar
        simp only [Sem.run_bind, hs, Result.andThen_ok, hv]
        simpa [Result.andThen] using hst
      simp only [Instr.storeAt, Instr.sureAddr, Sem.run_bind, Sem.run_pure, Result.andThen_ok, hsv]
    unfold Oper.wp
    rw [hrun]
    show K (a.put o.dst undef) _
    rw [hd]
    exact hK _ _ (h _ _ (ha.put0 _) (hL ▸ hw.setRow hk _))
theorem pm_load {t te : TypeId} {x : Operand} {g i k : Nat} {v : Value} {cs : List Value} (ho : o.op = .load t x) (hx : ev E x = some (.pointer (some ⟨g, i, none⟩))) (hag : ∀ w : World, (isAgg t).run P w = .ok false w)
    (hk : L[k]? = some (.blk g te cs)) (hi : cs[i]? = some v) : Gives P N o E (Pm w0 L) v := gives_load ho hx hag fun w hw => (hw.cell hk i).trans hi
theorem pm_loadAgg {t te : TypeId} {x : Operand} {g i k n : Nat} {cs : List Value} (ho : o.op = .load t x) (hx : ev E x = some (.pointer (some ⟨g, i, none⟩))) (hag : ∀ w : World, (isAgg t).run P w = .ok true w) (hs : ∀ w : World, (sizeOf t).run P w = .ok n w)
    (hk : L[k]? = some (.blk g te cs)) (hi : i + n ≤ cs.length) : Gives P N o E (Pm w0 L) (.agg ((cs.drop i).take n).toArray) := fun a w ha hw => by
  unfold execOp; rw [ho]
  simp only [ha.eval hx]
  have hlen : ((cs.drop i).take n).length = n := by simp; omega
  have hl := run_loadCells_list (P := P) w ⟨g, i, none⟩ ((cs.drop i).take n) (fun j v hj => by
    have hadd : (⟨g, i, none⟩ : Addr).add j = ⟨g, i + j, none⟩ := by unfold Addr.add; split <;> simp_all
    rw [hadd, hw.cell hk (i + j)]
    simp only [List.getElem?_take, List.getElem?_drop] at hj
    split at hj
    · exact hj
    · cases hj)
  rw [hlen] at hl
  simp only [Instr.loadAt, Instr.sureAddr, Sem.run_bind, Sem.run_pure, Result.andThen_ok, loadVar, hag, hs, hl, if_true]
theorem pm_ret_cell {fn : Func} {p : Tmp} {t te : TypeId} {g k : Nat} {cs : List Value} {d : TypeDesc} {R : Ending → World → Prop} (hr : fn.results = #[.cell p t]) (hp : look E p = some (.pointer (some ⟨g, 0, none⟩))) (hk : L[k]? = some (.blk g te cs))
    (hu : P.underlying t = some d) (hd : (match d with | .struct _ | .array _ _ => true | _ => false) = true) (hi : (P.info? t).map (·.size) = some cs.length) (hR : ∀ w, Pm w0 L w → R (.returned (.agg cs.toArray)) w) (hD : N.ds = [] := by rfl) :
    ∀ a w, EnvOk N E a → Pm w0 L w → bodyPost P fn R .ret a w := fun a w ha hw =>
  ⟨ha.defers.trans hD, .agg cs.toArray, results_cell_row hr a.tmps w g te cs.toArray (0, 0) d (by have := ha.slot p _ hp; simp [this]) (hw.at_ hk).1 hu hd (by simpa using hi), hR w hw⟩
theorem pm_oldAgg {t te : TypeId} {x : Operand} {g : Nat} {cs : Array Value} {d : TypeDesc} (ho : o.op = .load t x) (hx : ev E x = some (.pointer (some ⟨g, 0, none⟩))) (hb : Blk w0.w g te cs) (hlt : g < w0.b)
    (hu : P.underlying t = some d) (hd : (match d with | .struct _ | .array _ _ => true | _ => false) = true) (hi : (P.info? t).map (·.size) = some cs.size) : Gives P N o E (Pm w0 L) (.agg cs) := fun a w ha hw => by
  unfold execOp; rw [ho]
  simp only [ha.eval hx]
  have := run_loadVar_row (P := P) w g te t cs (0, 0) d (hb.below hw.bel hlt) hu hd hi
  simp only [Instr.loadAt, Instr.sureAddr, Sem.run_bind, Sem.run_pure, Result.andThen_ok, this]
theorem TL.pcall1 {d : Nat} {f : FuncId} {fn : Func} {xs : List Operand} {ts : Array TypeId} {vs : List Value} {r : Value} (hg : o.guard = none) (hd : o.dst = some d) (hN : Nat.blt d N.n = true)
    (ho : o.op = .call { callee := .value (.func f), args := xs.toArray, argTypes := ts }) (hx : evs E xs = some vs) (hf : P.funcs[f]? = some fn) (hn : (fn.name == "runtime.NumGoroutine") = false) (hb : fn.body.isNone = false)
    (hc : ∀ w, Pm w0 L w → Calls P f vs.toArray w fun e w' => e = .returned r ∧ Below w.heap.size w w') (h : TL P N ops Q l ((d, r) :: E) (Pm w0 L)) : TL P N ops Q (o :: l) E (Pm w0 L) :=
  TL.call (α := Unit) (r := fun _ => r) (I' := fun _ => Pm w0 L) hg hd hN ho hx hf hn hb (fun w hw => (hc w hw).mono fun e w' ⟨he, hb⟩ => ⟨(), he, hw.below hb⟩) (fun _ => h)
theorem TL.pcallRow {d : Nat} {f : FuncId} {fn : Func} {xs : List Operand} {ts : Array TypeId} {vs : List Value} {e : TypeId} {size n : Nat} {ys : List Value} (hg : o.guard = none) (hd : o.dst = some d) (hN : Nat.blt d N.n = true)
    (ho : o.op = .call { callee := .value (.func f), args := xs.toArray, argTypes := ts }) (hx : evs E xs = some vs) (hf : P.funcs[f]? = some fn) (hn : (fn.name == "runtime.NumGoroutine") = false) (hb : fn.body.isNone = false)
    (hc : ∀ w, Pm w0 L w → Calls P f vs.toArray w fun en w' => ∃ A c, en = .returned (.slice A n c) ∧ n ≤ c ∧ c ≤ maxLen ∧ w'.ownsRow w.heap.size e size (.slice A n c) n ys ∧ Below w.heap.size w w')
    (h : ∀ A c, n ≤ c → c ≤ maxLen → TL P N ops Q l ((d, .slice A n c) :: E) (Pm w0 (.row (.slice A n c) e size n ys :: L))) : TL P N ops Q (o :: l) E (Pm w0 L) :=
  TL.call (α := { p : Option Addr × Nat // n ≤ p.2 ∧ p.2 ≤ maxLen }) (r := fun p => .slice p.1.1 n p.1.2) (I' := fun p => Pm w0 (.row (.slice p.1.1 n p.1.2) e size n ys :: L)) hg hd hN ho hx hf hn hb
    (fun w hw => (hc w hw).mono fun en w' ⟨A, c, he, h1, h2, h3, h4⟩ => ⟨⟨(A, c), h1, h2⟩, he, hw.add h4 h3⟩) (fun p => h p.1.1 p.1.2 p.2.1 p.2.2)
/-! ### Values -/
theorem gives_len {s : Operand} {t e : TypeId} {A : Option Addr} {n c : Nat} {I : World → Prop} (ho : o.op = .call { callee := .builtin .len, args := #[s], argTypes := #[t] }) (ht : P.underlying t = some (.slice e)) (hs : ev E s = some (.slice A n c)) : Gives P N o E I (.int .i64 (n : Int)) := fun a w ha _ => by
  unfold execOp; rw [ho]
  simp only [resolve, invoke, builtin, Sem.run_bind, Sem.run_pure, Result.andThen_ok, List.map_toArray, List.map_cons, List.map_nil, ha.eval hs]
  simp [go_sem, Builtin.len_, run_underlying ht]
theorem gives_lenS {s : Operand} {t : TypeId} {b : ByteArray} {I : World → Prop} (ho : o.op = .call { callee := .builtin .len, args := #[s], argTypes := #[t] }) (ht : P.underlying t = some .string) (hs : ev E s = some (.string b)) : Gives P N o E I (.int .i64 (b.size : Int)) := fun a w ha _ => by
  unfold execOp; rw [ho]
  simp only [resolve, invoke, builtin, Sem.run_bind, Sem.run_pure, Result.andThen_ok, List.map_toArray, List.map_cons, List.map_nil, ha.eval hs]
  simp [go_sem, Builtin.len_, run_underlying ht]
theorem gives_conv {t u : TypeId} {x : Operand} {vx v : Value} {I : World → Prop} (ho : o.op = .convert t u x) (hx : ev E x = some vx) (hv : ∀ w : World, (convert t u vx).run P w = .ok v w) : Gives P N o E I v := fun a w ha _ => by
  unfold execOp; rw [ho]
  simp only [ha.eval hx, Sem.run_bind, hv, Result.andThen_ok, Sem.run_pure]
end
end Go.Proofs.Ytleckflmckbheaa

namespace Go.Proofs.Ytleckflmckbheaa
open Go.RowKit
def TX (N : Fr) (Q : Exit → Act → World → Prop) (e : Exit) (E : Env) (I : World → Prop) : Prop := ∀ a w, EnvOk N E a → I w → Q e a w
section
variable {P : Program} {N : Fr} {Q : Exit → Act → World → Prop} {E : Env} {I : World → Prop} {id i : Nat} {y : Code}
theorem TX.of {e : Exit} (h : ∀ a w, EnvOk N E a → I w → Q e a w) : TX N Q e E I := h
theorem TL.end_ {ops : Array Oper} (h : TX N Q .normal E I) : TL P N ops Q [] E I := h
theorem TC.skip_ (h : TX N Q .normal E I) : TC P N Q .skip E I := fun a w ha hw => wp_skip (h a w ha hw)
theorem TC.exit_ (h : TX N Q (.exit id) E I) : TC P N Q (.exit id) E I := fun a w ha hw => wp_exit (h a w ha hw)
theorem TC.ret_ (h : TX N Q .ret E I) : TC P N Q .ret E I := fun a w ha hw => wp_ret (h a w ha hw)
theorem TC.quiet_ {l : List Oper} {E' : Env} (hm : P.follows .mixedOrders = true) (hB : Region.lexB .any l.toArray = true) (hI : ∀ w, I w → I { w with drawn := w.drawn + 1 })
    (h : TQ P N l.toArray (EnvOk N E') l E I) (hy : TX N Q .normal E' I) : TC P N Q (.region id l.toArray true) E I := TC.quiet hm hB hI h fun a w ha hw => hy a w ha hw
theorem TQ.end_ {ops : Array Oper} : TQ P N ops (EnvOk N E) [] E I := fun a ha => ha
theorem TS.end_ {ops : Array Oper} {l : List Oper} (h : TL P N ops Q l E I) : TS P N ops (fun a w => wpList P ops Q l a w) [] E I := fun a w ha hw => h a w ha hw
theorem TX.then_ (h : TC P N Q y E I) : TX N (Exit.then (y.wp P Q) Q) .normal E I := h
theorem TX.then_exit {J : Act → World → Prop} (h : TX N Q (.exit i) E I) : TX N (Exit.then J Q) (.exit i) E I := h
theorem TX.then_ret {J : Act → World → Prop} (h : TX N Q .ret E I) : TX N (Exit.then J Q) .ret E I := h
theorem TX.in_normal (h : TX N Q .normal E I) : TX N (Exit.inBlock id Q) .normal E I := h
theorem TX.in_ret (h : TX N Q .ret E I) : TX N (Exit.inBlock id Q) .ret E I := h
theorem TX.in_same (h : TX N Q .normal E I) : TX N (Exit.inBlock id Q) (.exit id) E I := fun a w ha hw => by
  simpa [Exit.inBlock] using h a w ha hw
theorem TX.in_other (hne : Nat.beq i id = false) (h : TX N Q (.exit i) E I) : TX N (Exit.inBlock id Q) (.exit i) E I := fun a w ha hw => by
  have : i ≠ id := fun e => by subst e; simp at hne
  have h2 := h a w ha hw
  simpa [Exit.inBlock, this, Ne.symm this] using h2
theorem TX.round {α : Type} {E' : α → Env} {I' : α → World → Prop} {m : α → Nat} {b : Nat} (y : α) (hm : m y < b) (hE : Has E (E' y)) (hI : ∀ w, I w → I' y w) :
    TX N (Exit.then (fun a w => ∃ y, m y < b ∧ EnvOk N (E' y) a ∧ I' y w) Q) .normal E I := fun a w ha hw => ⟨y, hm, ha.of_list hE, hI w hw⟩
theorem TC.loop_ {c : Code} {α : Type} (E' : α → Env) (I' : α → World → Prop) (m : α → Nat) (x0 : α) (hE : Has E (E' x0)) (hI : ∀ w, I w → I' x0 w)
    (step : ∀ x, TC P N (Exit.then (fun a w => ∃ y, m y < m x ∧ EnvOk N (E' y) a ∧ I' y w) Q) c (E' x) (I' x)) : TC P N Q (.loop c) E I :=
  TC.loop E' I' m x0 (fun a w ha hw => ⟨ha.of_list hE, hI w hw⟩) step
theorem TC.cut (E' : Env) (I' : World → Prop) (hE : Has E E') (hI : ∀ w, I w → I' w) (h : TC P N Q y E' I') : TC P N Q y E I := fun a w ha hw => h a w (ha.of_list hE) (hI w hw)
theorem TX.cut {e : Exit} (E' : Env) (I' : World → Prop) (hE : Has E E') (hI : ∀ w, I w → I' w) (h : TX N Q e E' I') : TX N Q e E I := fun a w ha hw => h a w (ha.of_list hE) (hI w hw)
end
end Go.Proofs.Ytleckflmckbheaa

namespace Go.Proofs.Ytleckflmckbheaa
open Go.RowKit
section
variable {P : Program} {N : Fr} {Q : Exit → Act → World → Prop} {E : Env} {w0 : Base} {L : List Pc} {ops : Array Oper} {l : List Oper} {o : Oper} {xt : TypeId} {k k' : IntKind} {m n : Int}
theorem bin_sub (w : World) : (binOp .sub xt (.int k m) (.int k n)).run P w = .ok (.int k (k.wrap (m - n))) w := by simp [binOp, go_sem]
theorem bin_mul (w : World) : (binOp .mul xt (.int k m) (.int k n)).run P w = .ok (.int k (k.wrap (m * n))) w := by simp [binOp, go_sem]
theorem bin_leq (w : World) : (binOp .leq xt (.int k m) (.int k n)).run P w = .ok (.bool (decide (m ≤ n))) w := by simp [binOp, go_sem]
theorem bin_gtr (w : World) : (binOp .gtr xt (.int k m) (.int k n)).run P w = .ok (.bool (decide (m > n))) w := by simp [binOp, go_sem]
theorem bin_geq (w : World) : (binOp .geq xt (.int k m) (.int k n)).run P w = .ok (.bool (decide (m ≥ n))) w := by simp [binOp, go_sem]
theorem bin_eql (w : World) : (binOp .eql xt (.int k m) (.int k n)).run P w = .ok (.bool (decide (m = n))) w := by
  have : (m == n) = decide (m = n) := by by_cases h : m = n <;> simp [h]
  simp [binOp, go_sem, this]
theorem bin_neq (w : World) : (binOp .neq xt (.int k m) (.int k n)).run P w = .ok (.bool (decide (m ≠ n))) w := by
  have : (m != n) = decide (m ≠ n) := by by_cases h : m = n <;> simp [h]
  simp only [binOp, go_sem, this]
  simp [go_sem, this]
theorem bin_shr (q : Int) (h0 : 0 ≤ n) (h1 : n ≤ k.bits) (hq : (2 : Int) ^ n.toNat = q) (w : World) : (binOp .shr xt (.int k m) (.int k' n)).run P w = .ok (.int k (m / q)) w := by
  subst hq
  have h2 := shift_shr k k' m n h0 h1
  show (Op.shift .shr k m k' n).run P w = _
  rw [h2]; rfl
theorem bin_shl (q : Int) (h0 : 0 ≤ n) (h1 : n ≤ k.bits) (hq : (2 : Int) ^ n.toNat = q) (w : World) : (binOp .shl xt (.int k m) (.int k' n)).run P w = .ok (.int k (k.wrap (m * q))) w := by
  subst hq
  show (Op.shift .shl k m k' n).run P w = _
  unfold Op.shift
  rw [if_neg (by omega)]
  have : min n.toNat k.bits = n.toNat := by omega
  rw [this]; rfl
theorem bin_remi {m n : Int} (h0 : 0 ≤ m) (h1 : 0 < n) (w : World) : (binOp .rem xt (.int .i64 m) (.int .i64 n)).run P w = .ok (.int .i64 (m % n)) w := by
  have hz : n ≠ 0 := by omega
  have := Int.tmod_eq_emod_of_nonneg (a := m) (b := n) h0
  simp [binOp, go_sem, Op.intDiv, hz, this]
theorem conv_int {t u : TypeId} (hu : P.underlying u = some (.int k')) {d : TypeDesc} (ht : P.underlying t = some d) (w : World) : (convert t u (.int k m)).run P w = .ok (.int k' (k'.wrap m)) w := by
  simp [convert, run_underlying hu, run_underlying ht, go_sem]
theorem bin_sub_ {r : Int} (h : k.wrap (m - n) = r) (w : World) : (binOp .sub xt (.int k m) (.int k n)).run P w = .ok (.int k r) w := h ▸ bin_sub w
theorem bin_add_ {r : Int} (h : k.wrap (m + n) = r) (w : World) : (binOp .add xt (.int k m) (.int k n)).run P w = .ok (.int k r) w := h ▸ bin_add w
theorem bin_mul_ {r : Int} (h : k.wrap (m * n) = r) (w : World) : (binOp .mul xt (.int k m) (.int k n)).run P w = .ok (.int k r) w := h ▸ bin_mul w
theorem conv_fit {t u : TypeId} (hu : P.underlying u = some (.int k')) {d : TypeDesc} (ht : P.underlying t = some d) (h : k'.wrap m = m) (w : World) : (convert t u (.int k m)).run P w = .ok (.int k' m) w := by
  have := conv_int (k := k) (m := m) hu ht w
  rwa [h] at this
theorem gives_slice {t : TypeId} {x lo hi : Operand} {vx vl vh v : Value} {I : World → Prop} (ho : o.op = .slice t x (some lo) (some hi) none) (hx : ev E x = some vx) (hl : ev E lo = some vl) (hh : ev E hi = some vh) (hv : ∀ w : World, (Instr.sliceAt t vx (some vl) (some vh) none).run P w = .ok v w) : Gives P N o E I v := fun a w ha _ => by
  unfold execOp; rw [ho]
  simp only [Option.map_some, Option.map_none, ha.eval hx, ha.eval hl, ha.eval hh, Sem.run_bind, hv, Result.andThen_ok, Sem.run_pure]
theorem cut_lh {t : TypeId} {size : Nat} (ht : P.underlying t = some (.slice (P.elem t))) (hs : ∀ w : World, (sizeOf (P.elem t)).run P w = .ok size w) (A : Option Addr) (n c lo hi : Nat) {a b : Int} (ha : a = (lo : Int)) (hb : b = (hi : Int)) (h : lo ≤ hi) (h2 : hi ≤ c) (w : World) :
    (Instr.sliceAt t (.slice A n c) (some (.int .i64 a)) (some (.int .i64 b)) none).run P w = .ok (.slice (if c = lo then A else A.map (·.add (lo * size))) (hi - lo) (c - lo)) w := by
  subst ha hb
  rw [run_sliceAt_slice w t _ _ _ _ ht, run_slice_lh w t A n c ht .i64 .i64 lo ((hi : Nat) : Int) (by omega) (by omega) (by omega)]
  simp only [hs, Result.andThen, sliced, Int.toNat_natCast]
theorem Pm.tail {w : World} {p : Pc} (h : Pm w0 (p :: L) w) : Pm w0 L w := ⟨h.bel, fun q hq => h.own q (List.mem_cons_of_mem _ hq), (List.pairwise_cons.1 h.apart).2, h.oth, h.low⟩
theorem Pm.nilrow {w : World} (h : Pm w0 L w) (e : TypeId) (size : Nat) : Pm w0 (.row (.slice none 0 0) e size 0 [] :: L) w :=
  h.add (Below.refl _ _) (World.ownsRow_nil w _ e size)
theorem TL.nilrow (e : TypeId) (size : Nat) (h : TL P N ops Q l E (Pm w0 (.row (.slice none 0 0) e size 0 [] :: L))) : TL P N ops Q l E (Pm w0 L) := fun a w ha hw => h a w ha (hw.nilrow e size)
theorem TC.nilrow {c : Code} (e : TypeId) (size : Nat) (h : TC P N Q c E (Pm w0 (.row (.slice none 0 0) e size 0 [] :: L))) : TC P N Q c E (Pm w0 L) := fun a w ha hw => h a w ha (hw.nilrow e size)
theorem TL.mem {I I' : World → Prop} (hI : ∀ w, I w → I' w) (h : TL P N ops Q l E I') : TL P N ops Q l E I := fun a w ha hw => h a w ha (hI w hw)
theorem TC.mem {c : Code} {I I' : World → Prop} (hI : ∀ w, I w → I' w) (h : TC P N Q c E I') : TC P N Q c E I := fun a w ha hw => h a w ha (hI w hw)
theorem pm_reads {w : World} {k : Nat} {A : Option Addr} {e : TypeId} {size n c : Nat} {xs : List Value} (h : Pm w0 L w) (hk : L[k]? = some (.row (.slice A n c) e size n xs)) : ∃ B, Reads w B size A n xs := ⟨_, Reads.of_own (h.at_ hk)⟩
theorem pm_byt {w : World} {A : Option Addr} {n : Nat} {l : List Int} (h : Pm w0 L w) (hb : Byt w0.w w0.b A n l) : ∃ B, Reads w B 1 A n (bv l) := ⟨_, (hb.below h.bel).1⟩
theorem pm_ret_row {fn : Func} {t : Tmp} {A : Option Addr} {e : TypeId} {size n c k : Nat} {xs : List Value} {R : Ending → World → Prop} (hr : fn.results = #[.tmp t]) (hv : look E t = some (.slice A n c)) (hk : L[k]? = some (.row (.slice A n c) e size n xs))
    (hR : ∀ w, w.ownsRow w0.b e size (.slice A n c) n xs → Below w0.b w0.w w → R (.returned (.slice A n c)) w) (hD : N.ds = [] := by rfl) : TX N (bodyPost P fn R) .ret E (Pm w0 L) :=
  ret_tmp hr hv (fun w hw => hR w (hw.at_ hk) hw.bel) hD
end
end Go.Proofs.Ytleckflmckbheaa

namespace Go.Proofs.Ytleckflmckbheaa
open Go.RowKit
def TH (P : Program) (N : Fr) (ops : Array Oper) (S : World → Prop) (Q : Exit → Act → World → Prop) (f : Nat) (listed : Array Bool) (E : Env) (I : World → Prop) : Prop :=
  ∀ a w, EnvOk N E a → I w → wpAnyH P .any ops (NoPanic Q) S f listed a w
section
variable {P : Program} {N : Fr} {Q : Exit → Act → World → Prop} {E : Env} {I S : World → Prop} {ops : Array Oper} {f : Nat} {listed : Array Bool}
theorem TC.held {id : Nat} {l : List Oper} {ls : Array Bool} {n : Nat} (S : World → Prop) (hm : P.follows .mixedOrders = true) (hn : l.toArray.size = n) (hls : Array.replicate n false = ls) (hI : ∀ w, I w → I { w with drawn := w.drawn + 1 })
    (h : TH P N l.toArray S Q n ls E I) : TC P N Q (.region id l.toArray true) E I := fun a w ha hw => by
  subst hn hls
  exact wp_region_noPanic (wp_region_held (S := S) hm (h a _ ha (hI w hw)))
theorem TH.take {o : Oper} {d : Nat} {v : Value} {listed' : Array Bool} (i : Nat) (hi : ops[i]? = some o) (hs : Region.noSelect ops = true) (hf : Region.free .any ops listed i = true) (hr : (Region.ready .any ops listed).contains i = true) (hl : listed.setIfInBounds i true = listed')
    (hg : o.guard = none) (hd : o.dst = some d) (hN : Nat.blt d N.n = true) (hv : Gives P N o E S v) (hS : ∀ w, I w → S w)
    (h : TH P N ops S Q f listed' ((d, v) :: E) I) : TH P N ops S Q (f + 1) listed E I := fun a w ha hw => by
  subst hl
  refine wpAnyH_take hi hs hf hr (fun c a w h => h) (v := v) (.inl ⟨by simp [Region.wanted, hg], fun w' hw' => hv a w' ha hw'⟩) (hS w hw) ?_
  have := h (a.put o.dst v) w (hd ▸ ha.put d v (by simpa [Nat.blt_eq] using hN)) hw
  exact this
def Hd (P : Program) (ops : Array Oper) (S : World → Prop) (Q : Exit → Act → World → Prop) (f : Nat) (listed : Array Bool) : Act → World → Prop := fun a w => S w ∧ wpAnyH P .any ops (NoPanic Q) S f listed a w
theorem TX.held (hS : ∀ w, I w → S w) (h : TH P N ops S Q f listed E I) : TX N (Exit.then (Hd P ops S Q f listed) (NoPanic Q)) .normal E I := fun a w ha hw => ⟨hS w hw, h a w ha hw⟩
theorem op_of_list {o : Oper} {i : Nat} {K : Act → World → Prop} {a : Act} {w : World} (hi : ops[i]? = some o) (hg : o.guard = none) (h : wpList P ops (Exit.then K (NoPanic Q)) [o] a w) : wpOp P ops (NoPanic Q) i K a w := by
  unfold wpOp
  simp only [hi]
  unfold wpList at h
  have hw : Region.wanted o (yielded ops a.tmps) = true := by simp [Region.wanted, hg]
  simp only [hw, if_true] at h ⊢
  rcases h with h | ⟨h1, h2⟩
  · refine .inl ?_
    unfold Oper.wp at h ⊢
    generalize (execOp a.eval o).run P w = r at *
    cases r with
    | ok n w' => cases n <;> exact h
    | halt x w' => cases x <;> exact h
  · exact .inr ⟨h1, h2⟩
theorem TH.only {o : Oper} {listed' : Array Bool} (i : Nat) (hi : ops[i]? = some o) (hr : Region.ready .any ops listed = [i]) (hl : listed.setIfInBounds i true = listed') (hg : o.guard = none)
    (h : TL P N ops (Exit.then (Hd P ops S Q f listed') (NoPanic Q)) [o] E I) : TH P N ops S Q (f + 1) listed E I := fun a w ha hw => by
  subst hl
  refine wpAnyH_all hr (by simp) fun j hj => ?_
  have : j = i := by simpa using hj
  subst this
  exact op_of_list hi hg (h a w ha hw)
theorem TH.two {o o' : Oper} {listed1 listed2 : Array Bool} (i j : Nat) (hi : ops[i]? = some o) (hj : ops[j]? = some o') (hr : Region.ready .any ops listed = [i, j]) (hl1 : listed.setIfInBounds i true = listed1) (hl2 : listed.setIfInBounds j true = listed2) (hg : o.guard = none) (hg' : o'.guard = none)
    (h : TL P N ops (Exit.then (Hd P ops S Q f listed1) (NoPanic Q)) [o] E I) (h' : TL P N ops (Exit.then (Hd P ops S Q f listed2) (NoPanic Q)) [o'] E I) : TH P N ops S Q (f + 1) listed E I := fun a w ha hw => by
  subst hl1 hl2
  refine wpAnyH_all hr (by simp) fun k hk => ?_
  have : k = i ∨ k = j := by simpa using hk
  rcases this with rfl | rfl
  · exact op_of_list hi hg (h a w ha hw)
  · exact op_of_list hj hg' (h' a w ha hw)
theorem TH.done (hr : Region.ready .any ops listed = []) (h : TX N Q .normal E I) : TH P N ops S Q f listed E I := fun a w ha hw => wpAnyH_done (Q := NoPanic Q) hr (NoPanic.normal (h a w ha hw)) f
theorem Pm.sel {w0 : Base} {w : World} {L L' : List Pc} (h : Pm w0 L w) (hs : L'.Sublist L) : Pm w0 L' w := ⟨h.bel, fun q hq => h.own q (hs.subset hq), h.apart.sublist hs, h.oth, h.low⟩
end
end Go.Proofs.Ytleckflmckbheaa

namespace Go.Proofs.Ytleckflmckbheaa
open Go.RowKit
section
variable {P : Program} (w : World)
theorem wrap_small (m : Nat) (h : m ≤ maxLen) : IntKind.i64.wrap (m : Int) = (m : Int) := by
 have : m ≤ 9223372036854775807 := by simp only [maxLen] at h; omega
 simp only [IntKind.wrap_i64]; omega
theorem run_zeros_none (t u ty e : TypeId) (i : TypeInfo) (ht : P.underlying t = some (.slice e)) (hu : P.underlying u = some (.int .i64)) (hi : P.info? e = some i) (z : Value) (hz : i.zero = some z)
  (b : Option Addr) (sLen sCap : Nat) (h : sLen ≤ sCap) (hb : b = none ∨ ∃ g cur, b = some ⟨g, 0, none⟩ ∧ w.heap[g]? = some (.cells cur e (0, 0))) :
  (Builtin.append_ #[t, u] ty #[.slice b sLen sCap, .int .i64 0]).run P w = .ok (.slice b sLen sCap) w := by
 have h0 : IntKind.i64.wrap 0 = 0 := rfl
 have h1 : ¬ ((0 : Int) > 2 ^ 48) := by decide
 cases b with
 | none => simp [Builtin.append_, run_underlying ht, run_underlying hu, sizeOf, typeInfo, zeroValue, hi, hz, h0, h1, h, go_sem]
 | some a => simp [Builtin.append_, run_underlying ht, run_underlying hu, sizeOf, typeInfo, zeroValue, hi, hz, h0, h1, h, storeCells, go_sem]
theorem run_zeros_nil (t u ty e : TypeId) (i : TypeInfo) (ht : P.underlying t = some (.slice e)) (hu : P.underlying u = some (.int .i64)) (hi : P.info? e = some i) (z : Value) (hz : i.zero = some z) (hsz : 0 < i.size)
  (m : Nat) (hm : 0 < m) (h63 : m ≤ maxLen) (h48 : m * i.bytes ≤ 140737488355328) :
  (Builtin.append_ #[t, u] ty #[.slice none 0 0, .int .i64 (m : Int)]).run P w =
   .ok (.slice (some ⟨w.heap.size, 0, none⟩) m (grownCap w m 0 e)) (w.drew.alloc (.cells (Builtin.zeroCells z.cells m ++ Builtin.zeroCells z.cells (grownCap w m 0 e - m)) e)) := by
 have hw := wrap_small m h63
 have h63' : ¬ (9223372036854775807 < (m : Int)) := by simp only [maxLen] at h63; omega
 have h2 : ((m : Int) * (i.bytes : Int)) = ((m * i.bytes : Nat) : Int) := by simp
 have h48' : ¬ (281474976710656 < (m : Int) * (i.bytes : Int)) := by rw [h2]; omega
 have h3 : ¬ (281474976710656 < Builtin.nextslicecap m 0 * i.bytes) := by rw [nextslicecap_zero hm]; omega
 have hn : m ≠ 0 := by omega
 have hs : i.size ≠ 0 := by omega
 have hneg : ¬ ((m : Int) < 0) := by omega
 have hms : m * i.size ≠ 0 := Nat.mul_ne_zero hn hs
 have has : (asInt (.int .i64 (m : Int)) : Sem Int) = pure (m : Int) := rfl
 simp [Builtin.append_, run_underlying ht, run_underlying hu, sizeOf, typeInfo, zeroValue, hi, hz, hw, hms, hn, hs, has, h63', h48', h3, hneg, Question.forced, newRow, grownCap, Builtin.firstCells]
theorem run_zeros_room (t u ty e : TypeId) (i : TypeInfo) (ht : P.underlying t = some (.slice e)) (hu : P.underlying u = some (.int .i64)) (hi : P.info? e = some i) (z : Value) (hz : i.zero = some z) (hsz : 0 < i.size) (hzs : z.cells.size = i.size) (hz1 : ∀ v ∈ (Builtin.zeroCells z.cells 1).toList, v.oneCell' = true)
  (g sLen sCap : Nat) (cur : Array Value) (hg : w.heap[g]? = some (.cells cur e (0, 0))) (m : Nat) (hm : 0 < m) (h63 : m ≤ maxLen) (h48 : m * i.bytes ≤ 140737488355328) (h1 : ∀ v ∈ (Builtin.zeroCells z.cells m).toList, v.oneCell' = true)
  (hroom : sLen + m ≤ sCap) (hfit : sLen * i.size + m * i.size ≤ cur.size) :
  (Builtin.append_ #[t, u] ty #[.slice (some ⟨g, 0, none⟩) sLen sCap, .int .i64 (m : Int)]).run P w =
   .ok (.slice (some ⟨g, 0, none⟩) (sLen + m) sCap) (w.setRow g (cur.toList.take (sLen * i.size) ++ (Builtin.zeroCells z.cells m).toList ++ cur.toList.drop (sLen * i.size + (Builtin.zeroCells z.cells m).toList.length)).toArray) := by
 have hw := wrap_small m h63
 have h2 : ((m : Int) * (i.bytes : Int)) = ((m * i.bytes : Nat) : Int) := by simp
 have h48' : ¬ (281474976710656 < (m : Int) * (i.bytes : Int)) := by rw [h2]; omega
 have hn : m ≠ 0 := by omega
 have hs : i.size ≠ 0 := by omega
 have hneg : ¬ ((m : Int) < 0) := by omega
 have hms : m * i.size ≠ 0 := Nat.mul_ne_zero hn hs
 have has : (asInt (.int .i64 (m : Int)) : Sem Int) = pure (m : Int) := rfl
 have hst := run_storeCells_at P g (sLen * i.size) e (Builtin.zeroCells z.cells m).toList 0 cur w hg (by simp [size_zeroCells, hzs]; omega) h1
 simp only [Nat.add_zero] at hst
 simp [Builtin.append_, run_underlying ht, run_underlying hu, sizeOf, typeInfo, zeroValue, hi, hz, hw, hms, hn, hs, has, h48', hneg, hroom, Addr.add_lit, hst]
theorem run_zeros_grow (t u ty e : TypeId) (i : TypeInfo) (ht : P.underlying t = some (.slice e)) (hu : P.underlying u = some (.int .i64)) (hi : P.info? e = some i) (z : Value) (hz : i.zero = some z) (hsz : 0 < i.size)
  (b : Addr) (sLen sCap : Nat) (olds : List Value) (hlo : olds.length = sLen * i.size) (holds : ∀ j v, olds[j]? = some v → w.cell? (b.add j) = some v) (m : Nat) (hm : 0 < m) (h63 : sLen + m ≤ maxLen) (h48 : (sLen + m) * i.bytes ≤ 140737488355328) (hg : sCap < sLen + m) :
  (Builtin.append_ #[t, u] ty #[.slice (some b) sLen sCap, .int .i64 (m : Int)]).run P w =
   .ok (.slice (some ⟨w.heap.size, 0, none⟩) (sLen + m) (grownCap w (sLen + m) sCap e)) (w.drew.alloc (.cells (olds.toArray ++ Builtin.zeroCells z.cells m ++ Builtin.zeroCells z.cells (grownCap w (sLen + m) sCap e - (sLen + m))) e)) := by
 have hw := wrap_small m (by omega)
 have h63' : ¬ (9223372036854775807 < ((sLen : Int) + (m : Int))) := by simp only [maxLen] at h63; omega
 have h2 : ((m : Int) * (i.bytes : Int)) = ((m * i.bytes : Nat) : Int) := by simp
 have hle : m * i.bytes ≤ (sLen + m) * i.bytes := Nat.mul_le_mul_right _ (by omega)
 have h48' : ¬ (281474976710656 < (m : Int) * (i.bytes : Int)) := by rw [h2]; omega
 have h3 : ¬ (281474976710656 < Builtin.nextslicecap (sLen + m) sCap * i.bytes) := by
  have := growslice_fits (bytes := i.bytes) (old := sCap) (need := sLen + m) (by omega) h48
  omega
 have hn : m ≠ 0 := by omega
 have hs : i.size ≠ 0 := by omega
 have hneg : ¬ ((m : Int) < 0) := by omega
 have hms : m * i.size ≠ 0 := Nat.mul_ne_zero hn hs
 have has : (asInt (.int .i64 (m : Int)) : Sem Int) = pure (m : Int) := rfl
 have hr : ¬ (sLen + m ≤ sCap) := by omega
 have hfo := run_firstCells_some (P := P) w.drew i.size sLen b sLen sCap olds hlo (by simpa using holds)
 simp [Builtin.append_, run_underlying ht, run_underlying hu, sizeOf, typeInfo, zeroValue, hi, hz, hw, hms, hn, hs, has, h63', h48', h3, hneg, hr, hfo, Question.forced, newRow, grownCap]
theorem run_zeros_own (base : Nat) (t u ty e : TypeId) (i : TypeInfo) (z : Value) (size bytes : Nat) (ht : P.underlying t = some (.slice e)) (hu : P.underlying u = some (.int .i64)) (hi : P.info? e = some i) (hz : i.zero = some z)
  (hsize : i.size = size) (hby : i.bytes = bytes) (hzs : z.cells.size = size) (hsz : 0 < size) (hz1 : ∀ k, ∀ v ∈ (Builtin.zeroCells z.cells k).toList, v.oneCell' = true)
  (v : Value) (n : Nat) (xs : List Value) (hown : w.ownsRow base e size v n xs) (m : Nat)
  (h63 : n + m ≤ maxLen) (hbytes : (n + m) * bytes ≤ 140737488355328) (hbase : base ≤ w.heap.size) :
  ∃ v' w', (Builtin.append_ #[t, u] ty #[v, .int .i64 (m : Int)]).run P w = .ok v' w' ∧ w'.ownsRow base e size v' (n + m) (xs ++ (Builtin.zeroCells z.cells m).toList) ∧ w.grownBy w' v.ownBlock ∧
   (v'.ownBlock = v.ownBlock ∨ v'.ownBlock = some w.heap.size) := by
 subst hsize
 subst hby
 have hl : (Builtin.zeroCells z.cells m).toList.length = m * i.size := by simp [size_zeroCells, hzs]
 have hlen : (xs ++ (Builtin.zeroCells z.cells m).toList).length = (n + m) * i.size := by rw [List.length_append, hown.1, hl, Nat.add_mul]
 have hmb : m * i.bytes ≤ (n + m) * i.bytes := Nat.mul_le_mul_right _ (by omega)
 have grown : ∀ (old : Nat), old < n + m → ∀ (row : Option Nat),
   (w.drew.alloc (.cells (xs.toArray ++ Builtin.zeroCells z.cells m ++ Builtin.zeroCells z.cells (grownCap w (n + m) old e - (n + m))) e)).ownsRow base e i.size
    (.slice (some ⟨w.heap.size, 0, none⟩) (n + m) (grownCap w (n + m) old e)) (n + m) (xs ++ (Builtin.zeroCells z.cells m).toList) ∧
   w.grownBy (w.drew.alloc (.cells (xs.toArray ++ Builtin.zeroCells z.cells m ++ Builtin.zeroCells z.cells (grownCap w (n + m) old e - (n + m))) e)) row := by
  intro old ho row
  have hge := grownCap_ge w (n + m) old e
  have hcm : grownCap w (n + m) old e ≤ maxLen := grownCap_le_maxLen w (n + m) old e h63
  refine ⟨⟨hlen, .inr ⟨w.heap.size, _, _, rfl, hbase, heap_alloc_new w.drew _, hge, hcm, ?_, ?_⟩⟩, ⟨rfl, rfl, rfl, by simp, fun k hk _ => Below.heap_alloc w.drew _ k hk⟩⟩
  ·simp only [Array.size_append, List.size_toArray, size_zeroCells, hzs, hown.1, ← Nat.add_mul]
   congr 1
   omega
  ·simp only [Array.toList_append, List.append_assoc]
   rw [← List.append_assoc, ← hlen]
   exact List.take_left
 rcases hown.2 with ⟨rfl, rfl⟩ | ⟨g, cap, cur, rfl, hbg, hg, hnc, hcm, hcs, htake⟩
 ·have hx : xs = [] := List.eq_nil_of_length_eq_zero (by simpa using hown.1)
  subst hx
  by_cases hm : m = 0
  ·subst hm
   refine ⟨.slice none 0 0, w, run_zeros_none w t u ty e i ht hu hi z hz none 0 0 (Nat.le_refl _) (.inl rfl), ?_, World.grownBy.refl w _, .inl rfl⟩
   have : (Builtin.zeroCells z.cells 0).toList = [] := by simp [Builtin.zeroCells]
   rw [this]
   exact World.ownsRow_nil w base e i.size
  ·have hr := run_zeros_nil w t u ty e i ht hu hi z hz hsz m (by omega) (by omega) (by omega)
   have hgr := grown 0 (by omega) (Value.ownBlock (.slice none 0 0))
   simp only [Nat.zero_add, List.nil_append, Array.empty_append] at hgr ⊢
   exact ⟨_, _, hr, hgr.1, hgr.2, .inr rfl⟩
 ·by_cases hm : m = 0
  ·subst hm
   refine ⟨_, w, run_zeros_none w t u ty e i ht hu hi z hz _ n cap hnc (.inr ⟨g, cur, rfl, hg⟩), ?_, World.grownBy.refl w _, .inl rfl⟩
   have : (Builtin.zeroCells z.cells 0).toList = [] := by simp [Builtin.zeroCells]
   rw [this, List.append_nil]
   exact hown
  ·by_cases hroom : n + m ≤ cap
   ·have hfit : n * i.size + m * i.size ≤ cur.size := by rw [hcs, ← Nat.add_mul]; exact Nat.mul_le_mul_right _ hroom
    have hr := run_zeros_room w t u ty e i ht hu hi z hz hsz hzs (hz1 1) g n cap cur hg m (by omega) (by omega) (by omega) (hz1 m) hroom hfit
    refine ⟨_, _, hr, ⟨hlen, .inr ⟨g, cap, _, rfl, hbg, setRow_heap w g cur _ e _ hg, hroom, hcm, ?_, ?_⟩⟩, ⟨rfl, rfl, rfl, by simp, fun k _ hk => setRow_other w g k _ (fun e => hk (by simp [Value.ownBlock, e]))⟩, .inl rfl⟩
    ·simp only [List.size_toArray, List.length_append, List.length_take, List.length_drop, Array.length_toList, hl]
     omega
    ·rw [htake, ← hlen]
     exact List.take_left
   ·have holds : ∀ j u, xs[j]? = some u → w.cell? ((⟨g, 0, none⟩ : Addr).add j) = some u := hown.cells (g := g) rfl
    have hr := run_zeros_grow w t u ty e i ht hu hi z hz hsz ⟨g, 0, none⟩ n cap xs hown.1 holds m (by omega) h63 hbytes (by omega)
    have hgr := grown cap (by omega) (Value.ownBlock (.slice (some ⟨g, 0, none⟩) n cap))
    exact ⟨_, _, hr, hgr.1, hgr.2, .inr rfl⟩
end
section
variable {P : Program} {N : Fr} {Q : Exit → Act → World → Prop} {E : Env} {w0 : Base} {L : List Pc} {ops : Array Oper} {l : List Oper} {o : Oper} {I : World → Prop}
theorem TL.zeros {d k : Nat} {s x : Operand} {t u e : TypeId} {size bytes n c m : Nat} {A0 : Option Addr} {olds zs : List Value} {z : Value} (hg : o.guard = none) (hd : o.dst = some d) (hN : Nat.blt d N.n = true)
  (ho : o.op = .call { callee := .builtin .append, args := #[s, x], argTypes := #[t, u] }) (hE : Elem P t e size bytes) (hu : P.underlying u = some (.int .i64)) (hs : ev E s = some (.slice A0 n c)) (hx : ev E x = some (.int .i64 (m : Int)))
  (hk : L[k]? = some (.row (.slice A0 n c) e size n olds)) (hzv : (P.info? e).map (·.zero) = some (some z)) (hzs : (Builtin.zeroCells z.cells m).toList = zs) (h1 : ∀ k, ∀ u ∈ (Builtin.zeroCells z.cells k).toList, u.oneCell' = true) (hlim : (n + m) * bytes ≤ 140737488355328) (M : Nat) (hM : M = n + m)
  (h : ∀ A' c', M ≤ c' → c' ≤ maxLen → TL P N ops Q l ((d, .slice A' M c') :: E) (Pm w0 (L.set k (.row (.slice A' M c') e size M (olds ++ zs))))) : TL P N ops Q (o :: l) E (Pm w0 L) := by
 subst hM hzs
 refine TL.run (α := { p : Option Addr × Nat // n + m ≤ p.2 ∧ p.2 ≤ maxLen }) (r := fun p => .slice p.1.1 (n + m) p.1.2) (I' := fun p => Pm w0 (L.set k (.row (.slice p.1.1 (n + m) p.1.2) e size (n + m) (olds ++ (Builtin.zeroCells z.cells m).toList)))) hg hd hN (fun a w ha hw => ?_) (fun p => h p.1.1 p.1.2 p.2.1 p.2.2)
 obtain ⟨i, z', hi, hz, hsz, hby, hzs⟩ := hE.info
 have hzz : z' = z := by
  rw [hi] at hzv
  simp only [Option.map_some, Option.some.injEq] at hzv
  rw [hz] at hzv
  injection hzv
 subst hzz
 have hmx : n + m ≤ maxLen := by
  have : n + m ≤ (n + m) * bytes := Nat.le_mul_of_pos_right _ hE.big
  unfold maxLen; omega
 obtain ⟨v', w', hrun, hown', hgr, hkey⟩ := run_zeros_own w w0.b t u o.type e i z' size bytes hE.und hu hi hz hsz hby hzs hE.pos h1 _ n olds (hw.at_ hk) m hmx hlim hw.base
 obtain ⟨A', c', rfl, hc1, hc2⟩ := own_shape hown'
 refine ⟨⟨(A', c'), hc1, hc2⟩, w', ?_, hw.turn hk hgr hown' (fun g hg => ?_) (fun k o e => ?_)⟩
 ·unfold execOp; rw [ho]
  simp only [resolve, invoke, builtin, Sem.run_bind, Sem.run_pure, Result.andThen_ok, List.map_toArray, List.map_cons, List.map_nil, ha.eval hs, ha.eval hx, hrun]
 ·rcases hkey with hkey | hkey
  ·exact .inl (hkey.symm.trans hg)
  ·right
   have : (Value.slice A' (n + m) c').ownBlock = some g := hg
   rw [hkey] at this
   injection this with this
   omega
 ·cases e
/-! ### Operations with a guard -/
theorem yielded_of {a : Act} (ha : EnvOk N E a) {j d : Nat} {b : Bool} (hd : (ops[j]?).bind (·.dst) = some d) (hE : look E d = some (.bool b)) : yielded ops a.tmps j = some b := by
 have := ha.slot d _ hE
 simp [yielded, hd, this]
theorem wanted_of {a : Act} (ha : EnvOk N E a) {j d : Nat} {b b' : Bool} (hg : o.guard = some (j, b')) (hd : (ops[j]?).bind (·.dst) = some d) (hE : look E d = some (.bool b)) : Region.wanted o (yielded ops a.tmps) = (b == b') := by
 have := yielded_of ha hd hE
 unfold Region.wanted
 rw [hg]
 simp [this]
theorem TL.on {j d : Nat} {b : Bool} (hg : o.guard = some (j, b)) (hd : (ops[j]?).bind (·.dst) = some d) (hE : look E d = some (.bool b)) (h : TL P N ops Q ({ o with guard := none } :: l) E I) : TL P N ops Q (o :: l) E I := fun a w ha hw => by
 have hw1 := wanted_of ha hg hd hE
 have := h a w ha hw
 unfold wpList at this ⊢
 rw [if_pos (by simp [Region.wanted])] at this
 rw [if_pos (by simp [hw1])]
 exact this
theorem TL.off {j d t : Nat} {b b' : Bool} (hg : o.guard = some (j, b')) (hd : (ops[j]?).bind (·.dst) = some d) (hE : look E d = some (.bool b)) (hne : (b == b') = false) (ht : o.dst = some t) (hN : Nat.blt t N.n = true) (h : TL P N ops Q l ((t, undef) :: E) I) : TL P N ops Q (o :: l) E I := fun a w ha hw => by
 have hw1 := wanted_of ha hg hd hE
 unfold wpList
 rw [if_neg (by rw [hw1, hne]; decide), ht]
 exact h _ _ (ha.put t undef (by simpa [Nat.blt_eq] using hN)) hw
theorem TL.offU {j d t : Nat} {b' : Bool} (hg : o.guard = some (j, b')) (hd : (ops[j]?).bind (·.dst) = some d) (hE : look E d = some undef) (ht : o.dst = some t) (hN : Nat.blt t N.n = true) (h : TL P N ops Q l ((t, undef) :: E) I) : TL P N ops Q (o :: l) E I := fun a w ha hw => by
 have h1 : yielded ops a.tmps j = none := by
  have := ha.slot d _ hE
  simp [yielded, hd, this, undef]
 have hw1 : Region.wanted o (yielded ops a.tmps) = false := by
  unfold Region.wanted
  rw [hg]
  simp [h1]
 unfold wpList
 rw [if_neg (by rw [hw1]; decide), ht]
 exact h _ _ (ha.put t undef (by simpa [Nat.blt_eq] using hN)) hw
theorem gives_pick {c x y : Operand} {I : World → Prop} {b : Bool} {v : Value} (ho : o.op = .pick c x y) (hc : ev E c = some (.bool b)) (hv : (if b then ev E x else ev E y) = some v) : Gives P N o E I v := fun a w ha _ => by
 unfold execOp; rw [ho]
 simp only [ha.eval hc]
 cases b with
 | true =>
  have h2 : a.eval x = v := ha.eval (by simpa using hv)
  rw [← h2]; rfl
 | false =>
  have h2 : a.eval y = v := ha.eval (by simpa using hv)
  rw [← h2]; rfl
theorem gives_boolnot {xt : TypeId} {x : Operand} {I : World → Prop} {b : Bool} (ho : o.op = .unOp .not xt x) (hx : ev E x = some (.bool b)) : Gives P N o E I (.bool (!b)) := fun a w ha _ => by
 unfold execOp; rw [ho]
 simp only [ha.eval hx]
 simp [Op.unary, go_sem]
end
end Go.Proofs.Ytleckflmckbheaa

namespace Go.Proofs.Ytleckflmckbheaa
open Go.RowKit
abbrev sv (l : List Int) : Value := .string (strOfNums l)
theorem strOf_app (a b : List Int) : strOfNums (a ++ b) = strOfNums a ++ strOfNums b := by
  apply ByteArray.ext
  simp [strOfNums]
theorem strOf_nil : strOfNums [] = { data := #[] } := rfl
theorem u8_back {x : Int} (h : 0 ≤ x ∧ x ≤ 255) : ((UInt8.ofNat x.toNat).toNat : Int) = x := by
  rw [UInt8.toNat_ofNat']; omega
theorem strOf_inj {a b : List Int} (ha : Bs a) (hb : Bs b) (h : strOfNums a = strOfNums b) : a = b := by
  have h1 : (strOfNums a).data.toList.map (fun x : UInt8 => (x.toNat : Int)) = (strOfNums b).data.toList.map (fun x : UInt8 => (x.toNat : Int)) := by rw [h]
  have key : ∀ l : List Int, Bs l → (strOfNums l).data.toList.map (fun x : UInt8 => (x.toNat : Int)) = l := by
    intro l hl
    rw [strOfNums_data, List.map_map]
    conv => rhs; rw [← List.map_id l]
    refine List.map_congr_left fun x hx => ?_
    exact u8_back (hl x hx)
  rw [key a ha, key b hb] at h1
  exact h1
def numsOf (b : ByteArray) : List Int := b.data.toList.map fun x => (x.toNat : Int)
theorem numsOf_bs (b : ByteArray) : Bs (numsOf b) := by
  intro x hx
  simp only [numsOf, List.mem_map] at hx
  obtain ⟨y, _, rfl⟩ := hx
  have := y.toNat_lt
  omega
theorem strOf_numsOf (b : ByteArray) : strOfNums (numsOf b) = b := by
  apply ByteArray.ext
  simp only [strOfNums, numsOf, List.map_map]
  have : ((fun n : Int => UInt8.ofNat n.toNat) ∘ fun x : UInt8 => (x.toNat : Int)) = id := by
    funext x
    simp only [Function.comp_apply, Int.toNat_natCast, id_eq]
    exact UInt8.ofNat_toNat
  rw [this, List.map_id]
theorem numsOf_len (b : ByteArray) : (numsOf b).length = b.size := by
  simp only [numsOf, List.length_map, Array.length_toList]
  rfl
section
variable {P : Program} {N : Fr} {Q : Exit → Act → World → Prop} {E : Env} {w0 : Base} {L : List Pc} {ops : Array Oper} {l : List Oper} {o : Oper}
theorem str_at {t : TypeId} (h : P.underlying t = some .string) {s : List Int} {k : IntKind} {i : Nat} {x : Int} (hx : s[i]? = some x) (hr : 0 ≤ x ∧ x ≤ 255) (w : World) : (Instr.index t (.string (strOfNums s)) (.int k (i : Int))).run P w = .ok (.int .u8 x) w := by
  have hlt : i < s.length := (List.getElem?_eq_some_iff.1 hx).1
  have hsz := strOfNums_size s
  rw [run_index_string w t _ k _ h, dif_pos (by omega)]
  congr 2
  have e : ((strOfNums s)[((i : Int)).toNat]'(by omega)) = UInt8.ofNat x.toNat := by
    have : (strOfNums s)[((i : Int)).toNat]'(by omega) = (strOfNums s).data[i]'(by rw [show (strOfNums s).data.size = (strOfNums s).size from rfl]; omega) := rfl
    rw [this]
    simp only [strOfNums, List.getElem_toArray, List.getElem_map]
    rw [(List.getElem?_eq_some_iff.1 hx).2]
  rw [e]
  exact u8_back hr
theorem bin_strcat {x y : Operand} {xt : TypeId} {a b : List Int} (h : a.length + b.length ≤ 9223372036854775807) (w : World) : (do eqGuard .add xt x y (.string (strOfNums a)) (.string (strOfNums b)); binOp .add xt (.string (strOfNums a)) (.string (strOfNums b)) : Sem Value).run P w = .ok (sv (a ++ b)) w := by
  have h1 : ¬ (((strOfNums a).size + (strOfNums b).size : Nat) : Int) > IntKind.i64.max := by
    rw [strOfNums_size, strOfNums_size]; show ¬ (_ : Int) > 9223372036854775807; omega
  simp only [eqGuard, binOp, Op.stringOp, if_neg h1, strOf_app, sv]
  simp [go_sem]
theorem str_beq {a b : List Int} (ha : Bs a) (hb : Bs b) : ((strOfNums a).toList == (strOfNums b).toList) = decide (a = b) := by
  by_cases h : a = b
  · subst h; simp
  · have : ¬ (strOfNums a).toList = (strOfNums b).toList := fun e => h (strOf_inj ha hb (by
      apply ByteArray.ext
      rw [ByteArray.toList_eq, ByteArray.toList_eq] at e
      exact Array.toList_inj.1 e))
    simp [h, this]
theorem bin_streq {x y : Operand} {xt : TypeId} {a b : List Int} (ha : Bs a) (hb : Bs b) (w : World) : (do eqGuard .eql xt x y (.string (strOfNums a)) (.string (strOfNums b)); binOp .eql xt (.string (strOfNums a)) (.string (strOfNums b)) : Sem Value).run P w = .ok (.bool (decide (a = b))) w := by
  simp only [binOp_string_eql, str_beq ha hb]
  simp [eqGuard, go_sem]
theorem bin_strne {x y : Operand} {xt : TypeId} {a b : List Int} (ha : Bs a) (hb : Bs b) (w : World) : (do eqGuard .neq xt x y (.string (strOfNums a)) (.string (strOfNums b)); binOp .neq xt (.string (strOfNums a)) (.string (strOfNums b)) : Sem Value).run P w = .ok (.bool (!decide (a = b))) w := by
  simp only [binOp_string_neq, str_beq ha hb]
  simp [eqGuard, go_sem]
theorem strOf_extract (s : List Int) (i j : Nat) : (strOfNums s).extract i j = strOfNums ((s.drop i).take (j - i)) := by
  apply ByteArray.ext
  rw [ByteArray.data_extract]
  simp only [strOfNums, List.extract_toArray, List.extract_eq_take_drop, List.map_take, List.map_drop]
theorem str_cut {t : TypeId} (ht : P.underlying t = some .string) {s : List Int} {k k' : IntKind} {i j : Nat} (h1 : i ≤ j) (h2 : j ≤ s.length) (w : World) :
    (Instr.sliceAt t (.string (strOfNums s)) (some (.int k (i : Int))) (some (.int k' (j : Int))) none).run P w = .ok (sv ((s.drop i).take (j - i))) w := by
  rw [run_sliceAt_string w t _ _ _ _ ht, run_slice_string w t _ k k' _ _ ht (by omega) (by omega) (by rw [strOfNums_size]; omega)]
  simp only [Int.toNat_natCast, strOf_extract]
theorem conv_own {src dst e : TypeId} (hs : P.underlying src = some (.slice e)) (he : P.underlying e = some (.int .u8)) (hd : P.underlying dst = some .string) {w : World} {base n c : Nat} {A : Option Addr} {e' : TypeId} {xs : List Int} (h : w.ownsRow base e' 1 (.slice A n c) n (bv xs)) :
    (convert src dst (.slice A n c)).run P w = .ok (sv xs) w := by
  have hlen : xs.length = n := by have := h.1; simpa [bv_len] using this
  rcases h.2 with ⟨e, h2⟩ | ⟨g, cap, cur, a, r⟩
  · cases e
    have : xs = [] := List.eq_nil_of_length_eq_zero (by omega)
    subst this
    exact run_convert_bytes_nil w src _ hs he _ _ dst hd
  · cases a
    refine run_convert_bytes_arg w src _ hs he g 0 n c xs hlen (fun i hi => ?_) dst hd
    have hc := h.cells (g := g) rfl i (Value.int .u8 (xs.getD i 0)) (by
      simp only [bv, List.getElem?_map, List.getD_eq_getElem?_getD]
      rw [List.getElem?_eq_getElem (by omega)]
      rfl)
    rw [← hc]
    congr 1
    unfold Addr.add; split <;> simp_all
theorem gives_str {src dst e e' : TypeId} {x : Operand} {A : Option Addr} {n c k : Nat} {xs : List Int} (ho : o.op = .convert src dst x) (hx : ev E x = some (.slice A n c)) (hs : P.underlying src = some (.slice e)) (he : P.underlying e = some (.int .u8)) (hd : P.underlying dst = some .string)
    (hk : L[k]? = some (.row (.slice A n c) e' 1 n (bv xs))) : Gives P N o E (Pm w0 L) (sv xs) := fun a w ha hw => by
  unfold execOp; rw [ho]
  simp only [ha.eval hx, Sem.run_bind, conv_own hs he hd (hw.at_ hk), Result.andThen_ok, Sem.run_pure]
end
end Go.Proofs.Ytleckflmckbheaa

namespace Go.Proofs.Ytleckflmckbheaa
open Go.RowKit
theorem take_put {α : Type} (xs vs : List α) (off m : Nat) (h : off + vs.length ≤ m) (hm : m ≤ xs.length) : (xs.take off ++ vs ++ xs.drop (off + vs.length)).take m = (xs.take m).take off ++ vs ++ (xs.take m).drop (off + vs.length) := by
  refine List.ext_getElem? fun i => ?_
  have hl1 : (xs.take off).length = off := by simp; omega
  have hl2 : ((xs.take m).take off).length = off := by simp; omega
  simp only [List.getElem?_take, List.append_assoc, List.getElem?_append, hl1, hl2, List.getElem?_drop]
  split <;> split <;> (try split) <;> (try split) <;> first | rfl | omega | (simp only [List.getElem?_take]; split <;> first | rfl | omega) | (simp; omega)
section
variable {P : Program} {N : Fr} {Q : Exit → Act → World → Prop} {E : Env} {w0 : Base} {L : List Pc} {ops : Array Oper} {l : List Oper} {o : Oper}
theorem row_put {w : World} {B g n c size off : Nat} {e : TypeId} {xs vs : List Value} (h : w.ownsRow B e size (.slice (some ⟨g, 0, none⟩) n c) n xs) (hl : off + vs.length ≤ xs.length) :
    (∃ cur : Array Value, w.heap[g]? = some (.cells cur e (0, 0)) ∧ off + vs.length ≤ cur.size ∧ (w.setRow g (cur.toList.take off ++ vs ++ cur.toList.drop (off + vs.length)).toArray).ownsRow B e size (.slice (some ⟨g, 0, none⟩) n c) n (xs.take off ++ vs ++ xs.drop (off + vs.length))) := by
  obtain ⟨h1, h2⟩ := h
  rcases h2 with ⟨e1, h2⟩ | ⟨g', cap, cur, a, hb, hg, hn, hm, hs, ht⟩
  · cases e1
  · cases a
    have hle : n * size ≤ cur.size := by rw [hs]; exact Nat.mul_le_mul_right _ hn
    have hfit : off + vs.length ≤ n * size := by rw [h1] at hl; exact hl
    refine ⟨cur, hg, by omega, ⟨?_, .inr ⟨g, c, _, rfl, hb, setRow_heap w g cur _ e _ hg, hn, hm, ?_, ?_⟩⟩⟩
    · rw [← h1]; simp; omega
    · rw [← hs]; simp; omega
    · rw [← ht]
      exact take_put _ _ _ _ hfit (by simpa using hle)
theorem TL.rowset {t e : TypeId} {x y : Operand} {g off k n c size : Nat} {v : Value} {xs vs : List Value} (hg : o.guard = none) (hd : o.dst = none) (ho : o.op = .store t x y) (hx : ev E x = some (.pointer (some ⟨g, off, none⟩))) (hy : ev E y = some v)
    (hk : L[k]? = some (.row (.slice (some ⟨g, 0, none⟩) n c) e size n xs)) (hv : v.cells = vs.toArray) (hs : ∀ w : World, (sizeOf t).run P w = .ok vs.length w) (h1 : ∀ u ∈ vs, u.oneCell' = true) (hl : off + vs.length ≤ xs.length) {xs' : List Value} (hL : xs.take off ++ vs ++ xs.drop (off + vs.length) = xs')
    (h : TL P N ops Q l E (Pm w0 (L.set k (.row (.slice (some ⟨g, 0, none⟩) n c) e size n xs')))) : TL P N ops Q (o :: l) E (Pm w0 L) := fun a w ha hw =>
  wpList_plain hg fun K hK => by
    subst hL
    obtain ⟨cur, hcur, hfit, hown⟩ := row_put (hw.at_ hk) hl
    have hrun : (execOp a.eval o).run P w = .ok .skip (w.setRow g (cur.toList.take off ++ vs ++ cur.toList.drop (off + vs.length)).toArray) := by
      unfold execOp; rw [ho]
      simp only [ha.eval hx, ha.eval hy]
      have hst := run_storeCells_at (P := P) g off e vs 0 cur w hcur (by simpa using hfit) h1
      simp only [Nat.add_zero] at hst
      have hsv : (storeVar t ⟨g, off, none⟩ v).run P w = .ok () (w.setRow g (cur.toList.take off ++ vs ++ cur.toList.drop (off + vs.length)).toArray) := by
        unfold storeVar
        simp only [Sem.run_bind, hs, Result.andThen_ok, hv]
        simpa [Result.andThen] using hst
      simp only [Instr.storeAt, Instr.sureAddr, Sem.run_bind, Sem.run_pure, Result.andThen_ok, hsv]
    unfold Oper.wp
    rw [hrun]
    show K (a.put o.dst undef) _
    rw [hd]
    exact hK _ _ (h _ _ (ha.put0 _) (hw.turn hk (grown_setRow _ _) hown (fun g' hg' => .inl hg') (fun k o e => by cases e)))
theorem pm_row {w : World} {k g n c i : Nat} {e : TypeId} {size : Nat} {xs : List Value} {v : Value} (h : Pm w0 L w) (hk : L[k]? = some (.row (.slice (some ⟨g, 0, none⟩) n c) e size n xs)) (hi : xs[i]? = some v) : w.cell? ⟨g, i, none⟩ = some v := by
  have := (h.at_ hk).cells (g := g) rfl i v hi
  rw [← this]
  congr 1
  unfold Addr.add; split <;> simp_all
theorem pm_loadRow {t e : TypeId} {x : Operand} {g i k n c size : Nat} {v : Value} {xs : List Value} (ho : o.op = .load t x) (hx : ev E x = some (.pointer (some ⟨g, i, none⟩))) (hag : ∀ w : World, (isAgg t).run P w = .ok false w)
    (hk : L[k]? = some (.row (.slice (some ⟨g, 0, none⟩) n c) e size n xs)) (hi : xs[i]? = some v) : Gives P N o E (Pm w0 L) v := gives_load ho hx hag fun w hw => pm_row hw hk hi
theorem TL.mkrow {d m : Nat} {t e : TypeId} {size bytes : Nat} {x y : Operand} {k1 k2 : IntKind} {z : Value} {zs : List Value} (hg : o.guard = none) (hd : o.dst = some d) (hN : Nat.blt d N.n = true)
    (ho : o.op = .makeSlice t x y) (hx : ev E x = some (.int k1 (m : Int))) (hy : ev E y = some (.int k2 (m : Int))) (hE : Elem P t e size bytes) (hzv : (P.info? e).map (·.zero) = some (some z)) (hzs : (Go.madeCells z.cells (m * size)).toList = zs) (hlim : m * bytes ≤ 140737488355328)
    (h : ∀ g, TL P N ops Q l ((d, .slice (some ⟨g, 0, none⟩) m m) :: E) (Pm w0 (.row (.slice (some ⟨g, 0, none⟩) m m) e size m zs :: L))) : TL P N ops Q (o :: l) E (Pm w0 L) := by
  subst hzs
  refine TL.run (α := Nat) (r := fun g => .slice (some ⟨g, 0, none⟩) m m) (I' := fun g => Pm w0 (.row (.slice (some ⟨g, 0, none⟩) m m) e size m (madeCells z.cells (m * size)).toList :: L)) hg hd hN (fun a w ha hw => ?_) h
  obtain ⟨i, z', hi, hz, hsz, hby, hzs⟩ := hE.info
  have hzz : z' = z := by
    rw [hi] at hzv
    simp only [Option.map_some, Option.some.injEq] at hzv
    rw [hz] at hzv
    injection hzv
  subst hzz
  have hmx : m ≤ maxLen := by
    have : m ≤ m * bytes := Nat.le_mul_of_pos_right _ hE.big
    unfold maxLen; omega
  obtain ⟨w', hrun, hown, hgr⟩ := run_make_full (P := P) w w.heap.size t e i z' size hE.und hi hz hsz k1 k2 m (by rw [hby, Nat.mul_comm]; omega) hmx (Nat.le_refl _)
  refine ⟨w.heap.size, w', ?_, hw.add ((Below.refl _ _).grown hgr (Nat.le_refl _) (fun k e => by cases e)) hown⟩
  unfold execOp; rw [ho]
  simp only [ha.eval hx, ha.eval hy, Sem.run_bind, hrun, Result.andThen_ok, Sem.run_pure]
theorem made_one (v : Value) (hv : v.cells = #[v]) (m : Nat) : (Go.madeCells v.cells (m * 1)).toList = List.replicate m v := by
  rw [hv]
  refine List.ext_getElem (by simp [madeCells]) fun i h1 h2 => ?_
  simp [madeCells, Nat.mod_one]
theorem TL.rowhead {d k n c hi size : Nat} {t e : TypeId} {x y : Operand} {k2 : IntKind} {A : Option Addr} {xs xs' : List Value} (hg : o.guard = none) (hd : o.dst = some d) (hN : Nat.blt d N.n = true)
    (ho : o.op = .slice t x none (some y) none) (hx : ev E x = some (.slice A n c)) (hy : ev E y = some (.int k2 (hi : Int))) (ht : P.underlying t = some (.slice (P.elem t))) (hs : ∀ w : World, (sizeOf (P.elem t)).run P w = .ok size w)
    (hk : L[k]? = some (.row (.slice A n c) e size n xs)) (hh : hi ≤ n) (hc : n ≤ c) (hxs : xs.take (hi * size) = xs')
    (h : TL P N ops Q l ((d, .slice A hi c) :: E) (Pm w0 (L.set k (.row (.slice A hi c) e size hi xs')))) : TL P N ops Q (o :: l) E (Pm w0 L) := by
  subst hxs
  refine TL.run (α := Unit) (r := fun _ => .slice A hi c) (I' := fun _ => Pm w0 (L.set k (.row (.slice A hi c) e size hi (xs.take (hi * size))))) hg hd hN (fun a w ha hw => ⟨(), w, ?_, ?_⟩) (fun _ => h)
  · have hrow := hw.at_ hk
    unfold execOp; rw [ho]
    simp only [Option.map_some, Option.map_none, ha.eval hx, ha.eval hy, run_sliceAt_slice w t _ _ _ _ ht, run_slice_h w t A n c ht k2 (hi : Int) (by omega) (by omega), hs, Result.andThen_ok, Sem.run_bind, Sem.run_pure, sliced, Int.toNat_natCast, Nat.zero_mul, Nat.sub_zero]
    rcases hrow.2 with ⟨e1, h2⟩ | ⟨g, cap, cur, a1, r⟩
    · cases e1
      have : hi = 0 := by omega
      subst this
      simp
    · cases a1
      by_cases hc0 : c = 0
      · simp [hc0]
      · rw [if_neg hc0]
        have : (⟨g, 0, none⟩ : Addr).add 0 = ⟨g, 0, none⟩ := by unfold Addr.add; split <;> simp_all
        rw [Option.map_some, this]
  · have hrow := hw.at_ hk
    refine hw.turn hk (World.grownBy.refl w _) ?_ (fun g hg => .inl (by cases A <;> exact hg)) (fun _ _ e => by cases e)
    obtain ⟨h1, h2⟩ := hrow
    refine ⟨?_, ?_⟩
    · rw [List.length_take, h1]
      exact Nat.min_eq_left (Nat.mul_le_mul_right _ hh)
    · rcases h2 with ⟨e1, h2⟩ | ⟨g, cap, cur, a1, hb, hgg, hn, hm, hs1, ht1⟩
      · cases e1
        have : hi = 0 := by omega
        subst this
        exact .inl ⟨rfl, rfl⟩
      · cases a1
        refine .inr ⟨g, c, cur, rfl, hb, hgg, by omega, hm, hs1, ?_⟩
        rw [← ht1, List.take_take, Nat.min_eq_left (Nat.mul_le_mul_right _ hh)]
theorem gives_cap {s : Operand} {t e : TypeId} {A : Option Addr} {n c : Nat} {I : World → Prop} (ho : o.op = .call { callee := .builtin .cap, args := #[s], argTypes := #[t] }) (ht : P.underlying t = some (.slice e)) (hs : ev E s = some (.slice A n c)) : Gives P N o E I (.int .i64 (c : Int)) := fun a w ha _ => by
  unfold execOp; rw [ho]
  simp only [resolve, invoke, builtin, Sem.run_bind, Sem.run_pure, Result.andThen_ok, List.map_toArray, List.map_cons, List.map_nil, ha.eval hs]
  simp [go_sem, Builtin.cap_, run_underlying ht]
theorem gives_whole {t : TypeId} {x : Operand} {g n : Nat} {I : World → Prop} (ho : o.op = .slice t x none none none) (hx : ev E x = some (.pointer (some ⟨g, 0, none⟩))) (ht : P.underlying t = some (.array (P.arrayLen t) (P.elem t))) (hn : P.arrayLen t = n) (hs : ∀ w : World, (sizeOf (P.elem t)).run P w = .ok 1 w) : Gives P N o E I (.slice (some ⟨g, 0, none⟩) n n) := fun a w ha _ => by
  subst hn
  unfold execOp; rw [ho]
  simp only [Option.map_none, ha.eval hx, run_sliceAt_array_all w t _ ht, hs, Result.andThen_ok, Sem.run_bind, Sem.run_pure, slicedAt, Nat.zero_mul, Nat.sub_zero]
  congr 2
  simp only [Value.slice.injEq, Option.some.injEq, and_true]
  split
  · rfl
  · unfold Addr.add; split <;> simp_all
/-! ### Ways that join -/
theorem TC.join {α : Type} {x y : Code} {I : World → Prop} (E' : α → Env) (I' : α → World → Prop) (h : TC P N (Exit.then (fun a w => ∃ s, EnvOk N (E' s) a ∧ I' s w) Q) x E I) (hy : ∀ s, TC P N Q y (E' s) (I' s)) : TC P N Q (.seq x y) E I :=
  TC.seq h fun a w ⟨s, h1, h2⟩ => hy s a w h1 h2
theorem TX.joined {α : Type} {I : World → Prop} {E' : α → Env} {I' : α → World → Prop} (s : α) (hE : Has E (E' s)) (hI : ∀ w, I w → I' s w) : TX N (Exit.then (fun a w => ∃ s, EnvOk N (E' s) a ∧ I' s w) Q) .normal E I := fun a w ha hw => ⟨s, ha.of_list hE, hI w hw⟩
theorem TX.nilrow {ex : Exit} (e : TypeId) (size : Nat) (h : TX N Q ex E (Pm w0 (.row (.slice none 0 0) e size 0 [] :: L))) : TX N Q ex E (Pm w0 L) := fun a w ha hw => h a w ha (hw.nilrow e size)
theorem Pm.swap {w : World} {p q : Pc} (h : Pm w0 (p :: q :: L) w) : Pm w0 (q :: p :: L) w := by
  refine ⟨h.bel, fun r hr => h.own r ?_, ?_, h.oth, h.low⟩
  · simp only [List.mem_cons] at hr ⊢
    rcases hr with h | h | h
    · exact .inr (.inl h)
    · exact .inl h
    · exact .inr (.inr h)
  · have h1 := List.pairwise_cons.1 h.apart
    have h2 := List.pairwise_cons.1 h1.2
    refine List.Pairwise.cons (fun r hr => ?_) (List.Pairwise.cons (fun r hr => h1.1 r (List.mem_cons_of_mem _ hr)) h2.2)
    rcases List.mem_cons.1 hr with rfl | hr
    · exact fun g hg hgr => h1.1 q List.mem_cons_self g hgr hg
    · exact h2.1 r hr
theorem byt_cell_eq {w : World} {B b o n i : Nat} {y : Int} {l : List Int} (h : Byt w B (some ⟨b, o, none⟩) n l) (hi : i < n) (hy : l[i]? = some y) : w.cell? ⟨b, o + i, none⟩ = some (.int .u8 y) := by
  obtain ⟨ad, x, hA, _, hl, _, _, hc⟩ := h.at_ hi
  cases hA
  rw [hl] at hy
  cases hy
  rw [← hc]
  congr 1
  unfold Addr.add; split <;> simp_all
theorem byt_blk {w : World} {g n : Nat} {t : TypeId} {xs : List Int} (h : Blk w g t (bv xs).toArray) (hx : Bs xs) (hn : xs.length = n) : Byt w w.heap.size (some ⟨g, 0, none⟩) n xs := by
  subst hn
  refine ⟨⟨by simp [bv], fun _ => ⟨_, rfl, h.lt, fun j u hu => ?_⟩⟩, hx⟩
  have : (⟨g, 0, none⟩ : Addr).add j = ⟨g, j, none⟩ := by unfold Addr.add; split <;> simp_all
  rw [this, h.cell j]
  simpa using hu
theorem byt_oth {w : World} {g n : Nat} {t : TypeId} {f : Nat × Nat} {xs : List Int} (h : w.heap[g]? = some (.cells (bv xs).toArray t f)) (hx : Bs xs) (hn : xs.length = n) : Byt w w.heap.size (some ⟨g, 0, none⟩) n xs := by
  subst hn
  refine ⟨⟨by simp [bv], fun _ => ⟨_, rfl, (Array.getElem?_eq_some_iff.1 h).1, fun j u hu => ?_⟩⟩, hx⟩
  have : (⟨g, 0, none⟩ : Addr).add j = ⟨g, j, none⟩ := by unfold Addr.add; split <;> simp_all
  rw [this, cell_of_row w g j _ t f h]
  simpa using hu
theorem grown_freeze (w : World) (g m : Nat) : w.grownBy (w.freeze ⟨g, m, none⟩ 1) (some g) := by
  unfold World.freeze
  rw [if_neg (by decide)]
  refine ⟨rfl, rfl, rfl, by simp, fun k hk hne => ?_⟩
  have : g ≠ k := fun e => hne (by rw [e])
  simp [Array.getElem?_modify, this]
theorem TL.mark {d k g n : Nat} {t e e1 : TypeId} {x : Operand} {xs : List Value} (hg : o.guard = none) (hd : o.dst = some d) (hN : Nat.blt d N.n = true)
    (ho : o.op = .convert t t x) (hx : ev E x = some (.slice (some ⟨g, 0, none⟩) n n)) (ht : P.underlying t = some (.slice e1)) (he : P.underlying e1 = some (.int .u8))
    (hk : L[k]? = some (.row (.slice (some ⟨g, 0, none⟩) n n) e 1 n xs))
    (h : TL P N ops Q l ((d, .slice (some ⟨g, 0, none⟩) n n) :: E) (Pm w0 (L.set k (.oth g (.cells xs.toArray e (n, n + 1)))))) : TL P N ops Q (o :: l) E (Pm w0 L) := by
  refine TL.run (α := Unit) (r := fun _ => .slice (some ⟨g, 0, none⟩) n n) (I' := fun _ => Pm w0 (L.set k (.oth g (.cells xs.toArray e (n, n + 1))))) hg hd hN (fun a w ha hw => ?_) (fun _ => h)
  obtain ⟨h1, h2⟩ := hw.at_ hk
  rcases h2 with ⟨e1, _⟩ | ⟨g', cap, cur, a1, hb, hgg, hn, hm, hs1, ht1⟩
  · cases e1
  · cases a1
    have hcur : cur = xs.toArray := by
      rw [← Array.toList_inj, ← ht1, List.take_of_length_le (by simp; omega)]
    have hsz : cur.size = n := by omega
    rw [← hcur]
    have hsh : w.shape? g = some (e, n) := by
      unfold World.shape?; rw [hgg]
      show some (e, cur.size) = some (e, n)
      rw [hsz]
    have hlt := (Array.getElem?_eq_some_iff.1 hgg).1
    refine ⟨(), w.freeze ⟨g, n, none⟩ 1, ?_, hw.turn hk (grown_freeze w g n) ⟨?_, hb⟩ (fun g' hg' => .inl hg') (fun _ _ e => by cases e)⟩
    · unfold execOp; rw [ho]
      simp only [ha.eval hx, Sem.run_bind, Sem.run_pure]
      have hc : (convert t t (.slice (some ⟨g, 0, none⟩) n n)).run P w = .ok (.slice (some ⟨g, 0, none⟩) n n) (w.freeze ⟨g, n, none⟩ 1) := by
        simp [convert, run_underlying ht, run_underlying he, markStringish, hsh]
      rw [hc]; rfl
    · unfold World.freeze
      rw [if_neg (by decide)]
      simp [Array.getElem?_modify, hgg]
end
end Go.Proofs.Ytleckflmckbheaa

namespace Go.Proofs.Ytleckflmckbheaa
open Go.RowKit
section
variable {P : Program} {N : Fr} {E : Env} {I : World → Prop}
theorem beginM_ {f : FuncId} {fn : Func} {c : Code} {vs : List Value} {R : Ending → World → Prop} {w : World} (n : Nat) (hf : P.funcs[f]? = some fn) (hb : fn.body = some c) (hN : (⟨fn.ntmps, []⟩ : Fr) = N) (hn : Nat.ble vs.length N.n = true)
    (h : TC P N (bodyPostM Fence.wide n P fn R) c (vs.zipIdx.map fun x => (x.2, x.1)) I) (hw : I w) : Calls P f vs.toArray w R := by
  refine (callsIn_wide (n := n)).1 (callsIn_of_wp_marks hf hb trivial (wpIn_wide.2 (h _ _ ?_ hw)) rfl)
  subst hN
  have hle : vs.length ≤ fn.ntmps := by simpa [Nat.ble_eq] using hn
  refine ⟨rfl, by simp; omega, fun t v hv => ?_⟩
  have key : ∀ (us : List Value) (k : Nat), look ((us.zipIdx k).map fun x => (x.2, x.1)) t = some v → k ≤ t ∧ us[t - k]? = some v := by
    intro us
    induction us with
    | nil => intro k h; simp [look] at h
    | cons u us ih =>
      intro k h
      simp only [List.zipIdx_cons, List.map_cons, look] at h
      by_cases e : k = t
      · subst e
        have hb : Nat.beq k k = true := by simp
        rw [hb] at h
        simp at h
        subst h
        simp
      · have hb : Nat.beq k t = false := by
          cases hq : Nat.beq k t with
          | false => rfl
          | true => exact absurd (Nat.eq_of_beq_eq_true hq) e
        rw [hb] at h
        obtain ⟨h1, h2⟩ := ih (k + 1) h
        refine ⟨by omega, ?_⟩
        rw [show t - k = (t - (k + 1)) + 1 by omega]
        simpa using h2
  obtain ⟨_, h2⟩ := key vs 0 hv
  simp only [Nat.sub_zero] at h2
  have hlt : t < vs.length := (List.getElem?_eq_some_iff.1 h2).1
  simp [Array.getElem?_append, hlt]
  exact (List.getElem?_eq_some_iff.1 h2).2
theorem retM_tmp {F : Fence} {n : Nat} {fn : Func} {t : Tmp} {v : Value} {D : Nat} {R : Ending → World → Prop} (hr : fn.results = #[.tmp t]) (hv : look E t = some v) (hD : N.ds = [{ target := .collected D, args := #[] }])
    (hK : ∀ w, I w → w.heap[D]? = some (.deferred (some []))) (hR : ∀ w, I w → R (.returned v) (w.putObj D (.deferred none))) : TX N (bodyPostM F n P fn R) .ret E I := fun a w ha hw => by
  show LeavesInM F n P fn a.tmps R a.defers .returning w
  rw [ha.defers, hD]
  refine ⟨by simp, .inl ⟨_, _, rfl, run_takeDeferred (hK w hw), ?_⟩⟩
  have := ha.slot t v hv
  exact ⟨v, by rw [results_tmp hr]; simp [this], hR w hw⟩
end
/-! ### In a round -/
def noDefer (l : List Oper) : Bool := l.all fun o => match o.op with
  | .defer _ => false
  | _ => true
theorem noDefer_at {l : List Oper} (h : noDefer l = true) : ∀ o ∈ l, ∀ c, o.op ≠ .defer c := fun o ho c e => by
  have := List.all_eq_true.1 h o ho
  rw [e] at this
  cases this
section
variable {P : Program} {Q : Exit → Act → World → Prop}
theorem wpList_inRound {lr n : Nat} {ops : Array Oper} (hQ : LetsOut Q → False) : ∀ (L : List Oper), (∀ o ∈ L, ∀ c, o.op ≠ .defer c) → ∀ a w, wpList P ops Q L a w → wpListIn (Fence.wide.inRound lr) n P ops Q L a w
  | [], _, a, w, h => h
  | o :: r, hd, a, w, h => by
    have ih := wpList_inRound (lr := lr) (n := n) (ops := ops) hQ r (fun o' ho' => hd o' (List.mem_cons_of_mem _ ho'))
    unfold wpList at h
    unfold wpListIn
    by_cases hw : Region.wanted o (yielded ops a.tmps) = true
    · rw [if_pos hw] at h ⊢
      rcases h with h | h
      · refine ⟨fun f _ => trivial, ?_⟩
        rw [Oper.semAt_eq _ _ _ (hd o List.mem_cons_self)]
        unfold Oper.wp at h
        generalize (execOp a.eval o).run P w = res at h
        cases res with
        | ok x w' =>
          cases x with
          | value v => exact ih _ _ h
          | skip => exact ih _ _ h
          | defer d => exact ih _ _ h
          | enter f args =>
            refine ⟨fun h => (by cases h), CallsIn.inRound lr (callsIn_wide.2 (Calls.mono h fun e w'' q => ?_))⟩
            cases e with
            | returned v => exact ih _ _ q
            | panicked c => exact q
            | outgrown => exact q
          | row row args =>
            exact ⟨fun h => (by cases h), fun c cs hr => by
              obtain ⟨v, w'', q, st⟩ := h c cs
              exact ⟨v, w'', ih _ _ q, stepsIn_wide.2 st⟩⟩
          | round => exact h.elim
          | _ => exact h.elim
        | halt x w' =>
          cases x with
          | panic v => exact h
          | _ => exact h.elim
      · exact (hQ h.2).elim
    · rw [if_neg hw] at h ⊢
      exact ⟨fun f _ => trivial, ih _ _ h⟩
def TR (P : Program) (N : Fr) (lr n : Nat) (Q : Exit → Act → World → Prop) (c : Code) (E : Env) (I : World → Prop) : Prop := ∀ a w, EnvOk N E a → I w → c.wpIn (Fence.wide.inRound lr) n P Q a w
variable {N : Fr} {E : Env} {I : World → Prop} {lr n : Nat}
theorem TR.region {id : Nat} {l : List Oper} (hQ : LetsOut Q → False) (hd : noDefer l = true) (h : TL P N l.toArray Q l E I) : TR P N lr n Q (.region id l.toArray false) E I := fun a w ha hw =>
  wpIn_region_lit (wpList_inRound hQ l (noDefer_at hd) a w (h a w ha hw))
theorem TR.block {id : Nat} {c : Code} (h : TR P N lr n (Exit.inBlock id Q) c E I) : TR P N lr n Q (.block id c) E I := fun a w ha hw => wpIn_block (h a w ha hw)
def RoundQ (J : World → Prop) : Exit → Act → World → Prop := fun e _ w => e = .normal ∧ J w
theorem TX.roundQ {J : World → Prop} (h : ∀ w, I w → J w) : TX N (RoundQ J) .normal E I := fun a w ha hw => ⟨rfl, h w hw⟩
end
def noOth (l : List Pc) : Bool := l.all fun p => match p with
  | .oth _ _ => false
  | _ => true
theorem noOth_at {l : List Pc} (h : noOth l = true) : ∀ p ∈ l, ∀ k o, p = .oth k o → False := fun p hp k o e => by
  have := List.all_eq_true.1 h p hp
  rw [e] at this
  cases this
theorem pm_ownFrom {β : Type} {w0 : Base} {B : Nat} {L : β → List Pc} (h1 : w0.b ≤ B) (h2 : w0.w.heap.size ≤ B) (hL : ∀ s, noOth (L s) = true) : OwnFrom B (fun s W => Pm w0 (L s) W) := fun s W W' row hs hg hr =>
  ⟨hs.bel.grown hg hs.base fun k e => Nat.le_trans h1 (hr k e).1,
   fun p hp => Pc.same (hs.own p hp) (fun g hgp => by
     obtain ⟨o, ho, hc⟩ := Pc.cells (hs.own p hp) (noOth_at (hL s) p hp) g hgp
     refine hg.block g (Array.getElem?_eq_some_iff.1 ho).1 fun e => ?_
     obtain ⟨_, o', ho', hc'⟩ := hr g e.symm
     rw [ho] at ho'
     cases ho'
     exact absurd (hc.symm.trans hc') (by decide)) (fun k hk => hg.block k (Nat.lt_of_lt_of_le hk hs.base) fun e => by
     have := (hr k e.symm).1
     omega),
   hs.apart,
   ⟨Nat.le_trans hs.oth.size hg.size, fun k o hk ho => by
     have hkW := hs.oth.same k o hk ho
     refine (hg.block k (Array.getElem?_eq_some_iff.1 hkW).1 fun e => ?_).trans hkW
     have := (hr k e.symm).1
     have := (Array.getElem?_eq_some_iff.1 hk).1
     omega⟩, hs.low⟩
section
variable {P : Program} {N : Fr} {E : Env} {Q : Exit → Act → World → Prop} {w0 : Base}
theorem TC.fact {I : World → Prop} {c : Code} {p : Prop} (hp : ∀ w, I w → p) (h : p → TC P N Q c E I) : TC P N Q c E I := fun a w ha hw => h (hp w hw) a w ha hw
theorem Pc.mono {b b' : Nat} {w : World} {p : Pc} (h : p.ok b w) (hb : b' ≤ b) (hna : p.isAbs = false) : p.ok b' w := by
  cases p with
  | blk g t cs => exact ⟨h.1, Nat.le_trans hb h.2⟩
  | row v e size n xs => exact own_base h hb
  | oth k o => exact ⟨h.1, Nat.le_trans hb h.2⟩
  | abs g p => cases hna
theorem noAbs_at {l : List Pc} (h : noAbs l = true) : ∀ p ∈ l, p.isAbs = false := fun p hp => by
  have := List.all_eq_true.1 h p hp
  simpa using this
theorem Pm.addAll {L L' : List Pc} {w w' : World} (h : Pm w0 L w) (h' : Pm w L' w') (hna : noAbs L' = true) : Pm w0 (L' ++ L) w' := by
  have h2 := h.below h'.bel
  refine ⟨h2.bel, fun p hp => ?_, List.pairwise_append.2 ⟨h'.apart, h.apart, fun p hp q hq g hg hgq => ?_⟩, h2.oth, h.low⟩
  · rcases List.mem_append.1 hp with hp | hp
    · exact Pc.mono (h'.own p hp) h.base (noAbs_at hna p hp)
    · exact h2.own p hp
  · have h1 := (Pc.lt (h'.own p hp) g hg).1
    have h3 := (Pc.lt (h.own q hq) g hgq).2
    have h4 : w.heap.size ≤ g := h1
    omega
theorem TL.pcallPm {α : Type} {L : List Pc} {ops : Array Oper} {l : List Oper} {o : Oper} {d : Nat} {f : FuncId} {fn : Func} {xs : List Operand} {ts : Array TypeId} {vs : List Value} (r : α → Value) (Ln : α → List Pc) (hg : o.guard = none) (hd : o.dst = some d) (hN : Nat.blt d N.n = true)
    (ho : o.op = .call { callee := .value (.func f), args := xs.toArray, argTypes := ts }) (hx : evs E xs = some vs) (hf : P.funcs[f]? = some fn) (hn : (fn.name == "runtime.NumGoroutine") = false) (hb : fn.body.isNone = false)
    (hc : ∀ w, Pm w0 L w → Calls P f vs.toArray w fun en w' => ∃ x, en = .returned (r x) ∧ Pm w (Ln x) w')
    (h : ∀ x, TL P N ops Q l ((d, r x) :: E) (Pm w0 (Ln x ++ L))) (hna : ∀ x, noAbs (Ln x) = true := by intro x; rfl) : TL P N ops Q (o :: l) E (Pm w0 L) :=
  TL.call (α := α) (r := r) (I' := fun x => Pm w0 (Ln x ++ L)) hg hd hN ho hx hf hn hb (fun w hw => (hc w hw).mono fun en w' ⟨x, he, h2⟩ => ⟨x, he, hw.addAll h2 (hna x)⟩) h
theorem TC.rangeF {α : Type} {g : Operand} {p id : Nat} {la : List Oper} {body : Code} {gf : Nat} {lb : Array Value} {fn : Func} (n : Nat) (h1 : 1 ≤ n)
    (hg : ev E g = some (.func (.func gf) #[] lb)) (hf : P.funcs[gf]? = some fn) (hn : (fn.name == "runtime.NumGoroutine") = false) (hb : fn.body.isNone = false) (hp : Nat.blt p N.n = true)
    (enc : α → Value) (Kp : World → World → Prop) (S Sp : List α → Prop) (K : Nat) (L : List α → List Pc) (hoth : ∀ pre, noOth (L pre) = true)
    (hseq : ∀ w, Pm w0 (L []) w → SeqStopsK Fence.wide (n - 1) P gf lb (fun x => #[enc x]) Kp S Sp K w)
    (hKt : ∀ {A B C : World}, Kp A B → Kp B C → Kp A C) (hKb : ∀ (W : World) (l : Nat) (o o' : Obj), W.heap[l]? = some o → o.isCells = false → Kp W (W.putObj l o'))
    (hKp : ∀ pre pre' b W W', Pm ⟨W, b⟩ (L pre) W → Pm ⟨W, b⟩ (L pre') W' → Kp W W')
    (E' : α → Env) (hd : noDefer la = true)
    (hassign : ∀ (x : α) (Q' : Exit → Act → World → Prop) (I : World → Prop), TX ⟨N.n, []⟩ Q' .normal (E' x) I → TL P ⟨N.n, []⟩ la.toArray Q' la ((p, enc x) :: E) I)
    (hbody : ∀ (lr : Nat) (pre : List α) (x : α) (W : World), Pm w0 (L pre) W → pre.length < K → TR P ⟨N.n, []⟩ lr (n - 1 - 1) (RoundQ (Pm ⟨W, w0.b⟩ (L (pre ++ [x])))) body (E' x) (Pm ⟨W, w0.b⟩ (L pre)))
    (hdone : ∀ (D : Nat) (xs : List α), S xs → TX ⟨N.n, { target := .collected D, args := #[] } :: N.ds⟩ Q .normal E (Pm w0 (.oth D (.deferred (some [])) :: L xs))) :
    TC P N Q (.rangeFunc g #[p] (.region id la.toArray false) body) E (Pm w0 (L [])) := fun a w ha hw => by
  refine wpIn_wide.1 (wpIn_rangeFunc_ownH (n := n) (w0 := w) rfl h1 (ha.eval hg) trivial (fun args w' => ?_) (hseq w hw) hKt (fun W l o o' _ h2 h3 _ => hKb W l o o' h2 h3) (Below.refl _ _) (fun _ => rfl)
    (fun pre W => Pm w0 (L pre) W) (fun _ _ _ => False) (pm_ownFrom hw.base hw.bel.size hoth) (fun c s W W' row h _ _ => h) hw (fun x a' _ => EnvOk ⟨N.n, []⟩ (E' x) a') (fun x a' s W W' row h _ _ => h) ?_ ?_ ?_ ?_)
  · have hn' : ¬ fn.name = "runtime.NumGoroutine" := by simpa using hn
    have hb' : ¬ fn.body = none := by intro e; rw [e] at hb; simp at hb
    simp [callFunc, hf, hn', hb', go_sem]
  · intro lr pre x W K' hI hK
    refine wpIn_region_lit (wpList_inRound (fun ⟨a, w, h⟩ => h) la (noDefer_at hd) _ W (hassign x _ (fun W' => W' = W) (fun a' W' ha' hW => ?_) _ W ?_ rfl))
    · subst hW
      exact hK a' W' (KeepsFrom.refl _ _) (hKp pre pre w0.b W' W' hI.from_ hI.from_) hI ha'
    · have h0 : EnvOk ⟨N.n, []⟩ E { a with defers := [] } := ⟨rfl, ha.size, ha.slot⟩
      have := h0.put p (enc x) (by simpa [Nat.blt_eq] using hp)
      simpa [Act.put] using this
  · intro lr pre x a' W _ _ hI ha' hlen
    refine wpIn_mono (hbody lr pre x W hI hlen a' W ha' hI.from_) fun e a2 W2 q => ?_
    obtain ⟨rfl, hJ⟩ := q
    exact ⟨hJ.oth.from _, hKp pre _ _ W W2 hI.from_ hJ, hI.trans hJ⟩
  · intro D xs W hD hS hI hK
    refine hdone D xs hS _ W ⟨by simp [ha.defers], ha.size, ha.slot⟩ ⟨hI.bel, fun q hq => ?_, List.Pairwise.cons (fun q hq g hg he => ?_) hI.apart, hI.oth, hI.low⟩
    · rcases List.mem_cons.1 hq with rfl | hq
      · exact ⟨hK, Nat.le_trans hw.base hD⟩
      · exact hI.own q hq
    · simp only [Pc.key, Option.some.injEq] at hg
      subst hg
      obtain ⟨o, ho, hc⟩ := Pc.cells (hI.own q hq) (noOth_at (hoth xs) q hq) D he
      rw [hK] at ho
      cases ho
      cases hc
  · intro D c pre W _ _ h
    exact h.elim
theorem retM_row {n : Nat} {fn : Func} {t : Tmp} {A : Option Addr} {e : TypeId} {size m c k kD D : Nat} {xs : List Value} {L : List Pc} {R : Ending → World → Prop} (hr : fn.results = #[.tmp t]) (hv : look E t = some (.slice A m c)) (hD : N.ds = [{ target := .collected D, args := #[] }])
    (hkD : L[kD]? = some (.oth D (.deferred (some [])))) (hk : L[k]? = some (.row (.slice A m c) e size m xs))
    (hR : ∀ w, w.ownsRow w0.b e size (.slice A m c) m xs → Below w0.b w0.w w → R (.returned (.slice A m c)) w) : TX N (bodyPostM Fence.wide n P fn R) .ret E (Pm w0 L) := by
  refine retM_tmp hr hv hD (fun w hw => (hw.at_ hkD).1) fun w hw => ?_
  have hd := hw.at_ hkD
  have hg := grownBy_putObj' w D (.deferred none)
  refine hR _ (Pc.same (hw.at_ hk) (fun g hgp => ?_) (fun k' hk' => hg.block k' (Nat.lt_of_lt_of_le hk' hw.base) fun e => by cases e; have := hd.2; omega)) (hw.bel.grown hg hw.base fun k' e => by cases e; exact hd.2)
  obtain ⟨o, ho, hc⟩ := Pc.cells (hw.at_ hk) (fun _ _ e => by cases e) g hgp
  refine hg.block g (Array.getElem?_eq_some_iff.1 ho).1 fun e => ?_
  cases e
  rw [hd.1] at ho
  cases ho
  cases hc
end
end Go.Proofs.Ytleckflmckbheaa

namespace Go.Proofs.Ytleckflmckbheaa
open Go.RowKit
def oths (cb : Nat) (w : World) : List Pc := (List.range (w.heap.size - (cb + 1))).map fun i => .oth (cb + 1 + i) ((w.heap[cb + 1 + i]?).getD (.deferred none))
theorem oths_mem {cb k : Nat} {w : World} (h1 : cb < k) (h2 : k < w.heap.size) : ∃ o, w.heap[k]? = some o ∧ Pc.oth k o ∈ oths cb w := by
  refine ⟨w.heap[k], by simp [h2], List.mem_map.2 ⟨k - (cb + 1), List.mem_range.2 (by omega), ?_⟩⟩
  rw [show cb + 1 + (k - (cb + 1)) = k by omega]
  simp [h2]
theorem oths_ok {cb : Nat} {w : World} {q : Pc} (h : q ∈ oths cb w) : ∃ k o, q = .oth k o ∧ cb < k ∧ w.heap[k]? = some o := by
  obtain ⟨i, hi, rfl⟩ := List.mem_map.1 h
  have hi := List.mem_range.1 hi
  have hlt : cb + 1 + i < w.heap.size := by omega
  exact ⟨_, _, rfl, by omega, by simp [hlt]⟩
theorem oths_apart (cb : Nat) (w : World) : (oths cb w).Pairwise fun p q => ∀ g, p.key = some g → q.key ≠ some g := by
  refine List.pairwise_map.2 (List.Pairwise.imp (fun hne g hg he => ?_) List.nodup_range)
  simp only [Pc.key, Option.some.injEq] at hg he
  omega
def Stab (cb : Nat) (p : World → Prop) : Prop := ∀ w1 w2 : World, p w1 → (∀ k, k < cb ∨ k = cb → w2.heap[k]? = w1.heap[k]?) → p w2
def CellsAt (w : World) (g : Nat) : Prop := ∃ o : Obj, w.heap[g]? = some o ∧ o.isCells = true
theorem Pm.codes {w : World} {cb : Nat} {p : World → Prop} (hp : p w) (hc : CellsAt w cb) (hst : Stab cb p) : Pm ⟨w, cb⟩ (.abs cb p :: oths cb w) w := by
  have hlt : cb < w.heap.size := by obtain ⟨o, ho, _⟩ := hc; exact (Array.getElem?_eq_some_iff.1 ho).1
  refine ⟨Below.refl _ _, fun q hq => ?_, List.Pairwise.cons (fun q hq g hg he => ?_) (oths_apart cb w), KeepsOthers.refl w, Nat.le_of_lt hlt⟩
  · rcases List.mem_cons.1 hq with rfl | hq
    · exact ⟨hp, Nat.le_refl _, hc, hst⟩
    · obtain ⟨k, o, rfl, h1, h2⟩ := oths_ok hq
      exact ⟨h2, Nat.le_of_lt h1⟩
  · obtain ⟨k, o, rfl, h1, h2⟩ := oths_ok hq
    simp only [Pc.key, Option.some.injEq] at hg he
    omega
theorem Pm.kept {w w1 : World} {cb : Nat} {L : List Pc} (h : Pm ⟨w, cb⟩ L w1) (hs : ∀ q ∈ oths cb w, q ∈ L) : w.grownBy w1 (some cb) := by
  refine ⟨h.bel.os, h.bel.tape, h.bel.output, h.bel.size, fun k hk hne => ?_⟩
  rcases Nat.lt_trichotomy k cb with h1 | h1 | h1
  · exact h.bel.block k h1
  · exact absurd (by rw [h1]) hne
  · obtain ⟨o, ho, hm⟩ := oths_mem h1 hk
    exact ((h.own _ (hs _ hm)).1).trans ho.symm
theorem own_up {w : World} {b b' : Nat} {e : TypeId} {size n : Nat} {v : Value} {xs : List Value} (h : w.ownsRow b e size v n xs) (hk : ∀ g, v.ownBlock = some g → b' ≤ g) : w.ownsRow b' e size v n xs := by
  refine ⟨h.1, ?_⟩
  rcases h.2 with h | ⟨g, cap, cur, a, b, r⟩
  · exact .inl h
  · exact .inr ⟨g, cap, cur, a, hk g (by rw [a]; rfl), r⟩
theorem Pc.up {w : World} {b b' : Nat} {q : Pc} (h : q.ok b w) (hk : ∀ g, q.key = some g → b' ≤ g) (hna : q.isAbs = false) : q.ok b' w := by
  cases q with
  | blk g t cs => exact ⟨h.1, hk g rfl⟩
  | row v e size n xs => exact own_up h hk
  | oth k o => exact ⟨h.1, hk k rfl⟩
  | abs g p => cases hna
structure Codr (p : World → Prop) (cb : Nat) (w : World) (Ln : List Pc) (w' : World) : Prop where
  cod : p w'
  grown : w.grownBy w' (some cb)
  cells : CellsAt w' cb
  own : ∀ q ∈ Ln, q.ok w.heap.size w'
  apart : Ln.Pairwise fun p q => ∀ g, p.key = some g → q.key ≠ some g
theorem Pm.codr {w w1 : World} {cb : Nat} {p : World → Prop} (Ln : List Pc) (h : Pm ⟨w, cb⟩ (Ln ++ .abs cb p :: oths cb w) w1) (hna : noAbs Ln = true) : Codr p cb w Ln w1 := by
  have ha := List.pairwise_append.1 h.apart
  have habs := h.own (.abs cb p) (List.mem_append_right _ List.mem_cons_self)
  refine ⟨habs.1, h.kept fun q hq => List.mem_append_right _ (List.mem_cons_of_mem _ hq), habs.2.2.1, fun q hq => ?_, ha.1⟩
  refine Pc.up (h.own q (List.mem_append_left _ hq)) (fun g hg => ?_) (noAbs_at hna q hq)
  rcases Nat.lt_or_ge g w.heap.size with h1 | h1
  · exfalso
    have hge : cb ≤ g := (Pc.lt (h.own q (List.mem_append_left _ hq)) g hg).1
    rcases Nat.eq_or_lt_of_le hge with h2 | h2
    · subst h2
      exact ha.2.2 q hq _ List.mem_cons_self cb hg rfl
    · obtain ⟨o, ho, hm⟩ := oths_mem h2 h1
      exact ha.2.2 q hq _ (List.mem_cons_of_mem _ hm) g hg rfl
  · exact h1
section
variable {P : Program} {N : Fr} {Q : Exit → Act → World → Prop} {E : Env} {w0 : Base} {L : List Pc} {ops : Array Oper} {l : List Oper} {o : Oper}
theorem Pm.cods {w w' : World} {k cb : Nat} {p : World → Prop} {Ln : List Pc} (h : Pm w0 L w) (hk : L[k]? = some (.abs cb p)) (hc : Codr p cb w Ln w') (hna : noAbs Ln = true) : Pm w0 (Ln ++ L) w' := by
  have hp := h.at_ hk
  have hcb := (Pc.lt hp cb rfl)
  have hkeys : ∀ q ∈ L, ∀ g, q.key = some g → g < w.heap.size := fun q hq g hg => (Pc.lt (h.own q hq) g hg).2
  have hold : ∀ q ∈ L, q.ok w0.b w' := fun q hq => by
    by_cases he : q.key = some cb
    · -- the piece itself
      obtain ⟨i, hi⟩ := List.getElem?_of_mem hq
      have hik : i = k := by
        rcases Nat.lt_trichotomy i k with h1 | h1 | h1
        · exact absurd rfl (List.pairwise_iff_getElem.1 h.apart i k (List.getElem?_eq_some_iff.1 hi).1 (List.getElem?_eq_some_iff.1 hk).1 h1 cb (by rw [(List.getElem?_eq_some_iff.1 hi).2]; exact he) |> fun hh => by rw [(List.getElem?_eq_some_iff.1 hk).2] at hh; exact hh)
        · exact h1
        · exact absurd he (List.pairwise_iff_getElem.1 h.apart k i (List.getElem?_eq_some_iff.1 hk).1 (List.getElem?_eq_some_iff.1 hi).1 h1 cb (by rw [(List.getElem?_eq_some_iff.1 hk).2]; rfl) |> fun hh => by rw [(List.getElem?_eq_some_iff.1 hi).2] at hh; exact hh)
      subst hik
      rw [hk] at hi
      cases hi
      exact ⟨hc.cod, hp.2.1, hc.cells, hp.2.2.2⟩
    · refine Pc.same (h.own q hq) (fun g hg => hc.grown.block g (hkeys q hq g hg) fun e => he (by rw [hg, e])) (fun j hj => hc.grown.block j (Nat.lt_of_lt_of_le hj h.base) fun e => ?_)
      cases e
      have := hcb.1
      omega
  refine ⟨h.bel.grown hc.grown h.base (fun j e => by cases e; exact hcb.1), fun q hq => ?_, List.pairwise_append.2 ⟨hc.apart, h.apart, fun q hq r hr g hg hgr => ?_⟩, h.oth.trans (KeepsOthers.of_grownBy hc.grown fun j o hj ho => ?_), h.low⟩
  · rcases List.mem_append.1 hq with hq | hq
    · exact Pc.mono (hc.own q hq) h.base (noAbs_at hna q hq)
    · exact hold q hq
  · have h1 := (Pc.lt (hc.own q hq) g hg).1
    have h2 := hkeys r hr g hgr
    omega
  · cases hj
    obtain ⟨o', h1, h2⟩ := hp.2.2.1
    rw [ho] at h1
    cases h1
    exact h2
theorem TL.pcallCod {α : Type} {k cb d : Nat} {p : World → Prop} {f : FuncId} {fn : Func} {xs : List Operand} {ts : Array TypeId} {vs : List Value} (r : α → Value) (Ln : α → List Pc) (hg : o.guard = none) (hd : o.dst = some d) (hN : Nat.blt d N.n = true)
    (ho : o.op = .call { callee := .value (.func f), args := xs.toArray, argTypes := ts }) (hx : evs E xs = some vs) (hf : P.funcs[f]? = some fn) (hn : (fn.name == "runtime.NumGoroutine") = false) (hb : fn.body.isNone = false)
    (hk : L[k]? = some (.abs cb p)) (hc : ∀ w, Pm w0 L w → p w → Calls P f vs.toArray w fun en w' => ∃ x, en = .returned (r x) ∧ Codr p cb w (Ln x) w')
    (h : ∀ x, TL P N ops Q l ((d, r x) :: E) (Pm w0 (Ln x ++ L))) (hna : ∀ x, noAbs (Ln x) = true := by intro x; rfl) : TL P N ops Q (o :: l) E (Pm w0 L) :=
  TL.call (α := α) (r := r) (I' := fun x => Pm w0 (Ln x ++ L)) hg hd hN ho hx hf hn hb (fun w hw => (hc w hw (hw.at_ hk).1).mono fun en w' ⟨x, he, h2⟩ => ⟨x, he, hw.cods hk h2 (hna x)⟩) h
theorem TL.callNew {d : Nat} {I : World → Prop} {p : Nat → World → Prop} {f : FuncId} {fn : Func} {xs : List Operand} {ts : Array TypeId} {vs : List Value} (hg : o.guard = none) (hd : o.dst = some d) (hN : Nat.blt d N.n = true)
    (ho : o.op = .call { callee := .value (.func f), args := xs.toArray, argTypes := ts }) (hx : evs E xs = some vs) (hf : P.funcs[f]? = some fn) (hn : (fn.name == "runtime.NumGoroutine") = false) (hb : fn.body.isNone = false)
    (hc : ∀ w, I w → Calls P f vs.toArray w fun en w' => en = .returned (.pointer (some ⟨w.heap.size, 0, none⟩)) ∧ p w.heap.size w' ∧ CellsAt w' w.heap.size ∧ Below w.heap.size w w') (hst : ∀ cb, Stab cb (p cb))
    (h : ∀ w1, I w1 → TL P N ops Q l ((d, .pointer (some ⟨w1.heap.size, 0, none⟩)) :: E) (Pm w1 [.abs w1.heap.size (p w1.heap.size)])) : TL P N ops Q (o :: l) E I := fun a w ha hw =>
  wpList_plain hg fun K hK => by
    unfold Oper.wp
    rw [enters ha ho hx hf hn hb, Oper.upon_enter]
    refine (hc w hw).mono ?_
    rintro e w' ⟨rfl, hp, hcl, hbel⟩
    show K (a.put o.dst _) w'
    rw [hd]
    refine hK _ _ (h w hw _ _ (ha.put d _ (by simpa [Nat.blt_eq] using hN)) ⟨hbel, fun q hq => ?_, List.pairwise_singleton _ _, others_below hbel, Nat.le_refl _⟩)
    rcases List.mem_singleton.1 hq with rfl
    exact ⟨hp, Nat.le_refl _, hcl, hst _⟩
theorem gives_sliceL {t : TypeId} {x lo : Operand} {vx vl v : Value} {I : World → Prop} (ho : o.op = .slice t x (some lo) none none) (hx : ev E x = some vx) (hl : ev E lo = some vl) (hv : ∀ w : World, (Instr.sliceAt t vx (some vl) none none).run P w = .ok v w) : Gives P N o E I v := fun a w ha _ => by
  unfold execOp; rw [ho]
  simp only [Option.map_some, Option.map_none, ha.eval hx, ha.eval hl, Sem.run_bind, hv, Result.andThen_ok, Sem.run_pure]
theorem cut_lo {t : TypeId} {size : Nat} (ht : P.underlying t = some (.slice (P.elem t))) (hs : ∀ w : World, (sizeOf (P.elem t)).run P w = .ok size w) (A : Option Addr) (n c lo : Nat) {k : IntKind} {a : Int} (ha : a = (lo : Int)) (h : lo ≤ n) (w : World) :
    (Instr.sliceAt t (.slice A n c) (some (.int k a)) none none).run P w = .ok (.slice (if c = lo then A else A.map (·.add (lo * size))) (n - lo) (c - lo)) w := by
  subst ha
  rw [run_sliceAt_slice w t _ _ _ _ ht, run_slice_l w t A n c ht k lo (by omega) (by omega)]
  simp only [hs, Result.andThen, sliced, Int.toNat_natCast]
theorem cut_lo1 {t : TypeId} (ht : P.underlying t = some (.slice (P.elem t))) (hs : ∀ w : World, (sizeOf (P.elem t)).run P w = .ok 1 w) (A : Option Addr) (n c lo : Nat) {k : IntKind} {a : Int} (ha : a = (lo : Int)) (h : lo ≤ n) (w : World) :
    (Instr.sliceAt t (.slice A n c) (some (.int k a)) none none).run P w = .ok (.slice (if c = lo then A else A.map (·.add lo)) (n - lo) (c - lo)) w := by
  have := cut_lo (size := 1) (k := k) ht hs A n c lo ha h w
  rwa [Nat.mul_one] at this
end
theorem byt_grown {w w1 : World} {cb n : Nat} {A : Option Addr} {l : List Int} (h : Byt w w.heap.size A n l) (hne : ∀ ad, A = some ad → ad.block ≠ cb) (hg : w.grownBy w1 (some cb)) : Byt w1 w1.heap.size A n l := by
  refine ⟨⟨h.1.1, fun hn => ?_⟩, h.2⟩
  obtain ⟨ad, hA, hb, hc⟩ := h.1.2 hn
  refine ⟨ad, hA, Nat.lt_of_lt_of_le hb hg.size, fun j u hu => ?_⟩
  rw [← hc j u hu]
  refine World.cell?_of_block ?_
  have hbl : (ad.add j).block = ad.block := by unfold Addr.add; split <;> rfl
  rw [hbl]
  exact hg.block _ hb fun e => hne ad hA (by injection e)
end Go.Proofs.Ytleckflmckbheaa

namespace Go.Proofs.Ytleckflmckbheaa
open Go.RowKit
structure Chg (g : Nat) (t : TypeId) (cs : List Value) (w : World) (Ln : List Pc) (w' : World) : Prop where
  blk : Blk w' g t cs.toArray
  grown : w.grownBy w' (some g)
  own : ∀ q ∈ Ln, q.ok w.heap.size w'
  apart : Ln.Pairwise fun p q => ∀ g, p.key = some g → q.key ≠ some g
theorem Pm.atBlk {w : World} {g : Nat} {t : TypeId} {cs : List Value} (h : Blk w g t cs.toArray) : Pm ⟨w, g⟩ (.blk g t cs :: oths g w) w := by
  refine ⟨Below.refl _ _, fun q hq => ?_, List.Pairwise.cons (fun q hq g' hg he => ?_) (oths_apart g w), KeepsOthers.refl w, Nat.le_of_lt h.lt⟩
  · rcases List.mem_cons.1 hq with rfl | hq
    · exact ⟨h, Nat.le_refl _⟩
    · obtain ⟨k, o, rfl, h1, h2⟩ := oths_ok hq
      exact ⟨h2, Nat.le_of_lt h1⟩
  · obtain ⟨k, o, rfl, h1, h2⟩ := oths_ok hq
    simp only [Pc.key, Option.some.injEq] at hg he
    omega
theorem Pm.chg {w w1 : World} {g : Nat} {t : TypeId} {cs : List Value} (Ln : List Pc) (h : Pm ⟨w, g⟩ (Ln ++ .blk g t cs :: oths g w) w1) (hna : noAbs Ln = true) : Chg g t cs w Ln w1 := by
  have ha := List.pairwise_append.1 h.apart
  have hb := h.own (.blk g t cs) (List.mem_append_right _ List.mem_cons_self)
  refine ⟨hb.1, h.kept fun q hq => List.mem_append_right _ (List.mem_cons_of_mem _ hq), fun q hq => ?_, ha.1⟩
  refine Pc.up (h.own q (List.mem_append_left _ hq)) (fun g' hg => ?_) (noAbs_at hna q hq)
  rcases Nat.lt_or_ge g' w.heap.size with h1 | h1
  · exfalso
    have hge : g ≤ g' := (Pc.lt (h.own q (List.mem_append_left _ hq)) g' hg).1
    rcases Nat.eq_or_lt_of_le hge with h2 | h2
    · subst h2
      exact ha.2.2 q hq _ List.mem_cons_self g hg rfl
    · obtain ⟨o, ho, hm⟩ := oths_mem h2 h1
      exact ha.2.2 q hq _ (List.mem_cons_of_mem _ hm) g' hg rfl
  · exact h1
section
variable {P : Program} {N : Fr} {Q : Exit → Act → World → Prop} {E : Env} {w0 : Base} {L : List Pc} {ops : Array Oper} {l : List Oper} {o : Oper}
theorem Pm.adds {w w' : World} {L L' : List Pc} (h : Pm w0 L' w') (hb : w0.b ≤ w.heap.size) (hk : ∀ q ∈ L', ∀ g, q.key = some g → g < w.heap.size) (ho : ∀ q ∈ L, q.ok w.heap.size w') (ha : L.Pairwise fun p q => ∀ g, p.key = some g → q.key ≠ some g) (hna : noAbs L = true) : Pm w0 (L ++ L') w' := by
  refine ⟨h.bel, fun q hq => ?_, List.pairwise_append.2 ⟨ha, h.apart, fun q hq r hr g hg hgr => ?_⟩, h.oth, h.low⟩
  · rcases List.mem_append.1 hq with hq | hq
    · exact Pc.mono (ho q hq) hb (noAbs_at hna q hq)
    · exact h.own q hq
  · have h1 := (Pc.lt (ho q hq) g hg).1
    have h2 := hk r hr g hgr
    omega
theorem Pm.chgs {w w' : World} {k g : Nat} {t : TypeId} {cs cs' : List Value} {Ln : List Pc} (h : Pm w0 L w) (hk : L[k]? = some (.blk g t cs)) (hc : Chg g t cs' w Ln w') (hna : noAbs Ln = true) : Pm w0 (Ln ++ L.set k (.blk g t cs')) w' := by
  have hp := h.at_ hk
  have h2 : Pm w0 (L.set k (.blk g t cs')) w' := h.turn hk hc.grown ⟨hc.blk, hp.2⟩ (fun g' hg' => .inl hg') (fun _ _ e => by cases e)
  refine h2.adds (w := w) h.base (fun q hq g' hg' => ?_) hc.own hc.apart hna
  rcases List.mem_or_eq_of_mem_set hq with hq | rfl
  · exact (Pc.lt (h.own q hq) g' hg').2
  · simp only [Pc.key, Option.some.injEq] at hg'
    subst hg'
    exact hp.1.lt
theorem TL.pcallChg {α : Type} {k g d : Nat} {t : TypeId} {cs : List Value} {f : FuncId} {fn : Func} {xs : List Operand} {ts : Array TypeId} {vs : List Value} (r : α → Value) (cs' : α → List Value) (Ln : α → List Pc) (hg : o.guard = none) (hd : o.dst = some d) (hN : Nat.blt d N.n = true)
    (ho : o.op = .call { callee := .value (.func f), args := xs.toArray, argTypes := ts }) (hx : evs E xs = some vs) (hf : P.funcs[f]? = some fn) (hn : (fn.name == "runtime.NumGoroutine") = false) (hb : fn.body.isNone = false)
    (hk : L[k]? = some (.blk g t cs)) (hc : ∀ w, Pm w0 L w → Calls P f vs.toArray w fun en w' => ∃ x, en = .returned (r x) ∧ Chg g t (cs' x) w (Ln x) w')
    (h : ∀ x, TL P N ops Q l ((d, r x) :: E) (Pm w0 (Ln x ++ L.set k (.blk g t (cs' x))))) (hna : ∀ x, noAbs (Ln x) = true := by intro x; rfl) : TL P N ops Q (o :: l) E (Pm w0 L) :=
  TL.call (α := α) (r := r) (I' := fun x => Pm w0 (Ln x ++ L.set k (.blk g t (cs' x)))) hg hd hN ho hx hf hn hb (fun w hw => (hc w hw).mono fun en w' ⟨x, he, h2⟩ => ⟨x, he, hw.chgs hk h2 (hna x)⟩) h
theorem TL.pcallChg0 {α : Type} {k g : Nat} {t : TypeId} {cs : List Value} {f : FuncId} {fn : Func} {xs : List Operand} {ts : Array TypeId} {vs : List Value} (r : α → Value) (cs' : α → List Value) (Ln : α → List Pc) (hg : o.guard = none) (hd : o.dst = none)
    (ho : o.op = .call { callee := .value (.func f), args := xs.toArray, argTypes := ts }) (hx : evs E xs = some vs) (hf : P.funcs[f]? = some fn) (hn : (fn.name == "runtime.NumGoroutine") = false) (hb : fn.body.isNone = false)
    (hk : L[k]? = some (.blk g t cs)) (hc : ∀ w, Pm w0 L w → Calls P f vs.toArray w fun en w' => ∃ x, en = .returned (r x) ∧ Chg g t (cs' x) w (Ln x) w')
    (h : ∀ x, TL P N ops Q l E (Pm w0 (Ln x ++ L.set k (.blk g t (cs' x))))) (hna : ∀ x, noAbs (Ln x) = true := by intro x; rfl) : TL P N ops Q (o :: l) E (Pm w0 L) := fun a w ha hw =>
  wpList_plain hg fun K hK => by
    unfold Oper.wp
    rw [enters ha ho hx hf hn hb, Oper.upon_enter]
    refine (hc w hw).mono ?_
    rintro e w' ⟨x, rfl, h2⟩
    show K (a.put o.dst _) w'
    rw [hd]
    exact hK _ _ (h x _ _ (ha.put0 _) (hw.chgs hk h2 (hna x)))
theorem ret_none {fn : Func} {I : World → Prop} {R : Ending → World → Prop} (hr : fn.results = #[]) (hR : ∀ w, I w → R (.returned (.tuple #[])) w) (hD : N.ds = [] := by rfl) : TX N (bodyPost P fn R) .ret E I := fun a w ha hw =>
  ⟨ha.defers.trans hD, .tuple #[], results_none hr _ _ _, hR w hw⟩
theorem end_none {fn : Func} {I : World → Prop} {R : Ending → World → Prop} (hr : fn.results = #[]) (hR : ∀ w, I w → R (.returned (.tuple #[])) w) (hD : N.ds = [] := by rfl) : TX N (bodyPost P fn R) .normal E I := fun a w ha hw =>
  bodyPost_end (results_none hr _ _ _) (ha.defers.trans hD) (hR w hw)
theorem gives_nilCheck {x : Operand} {p : Addr} {I : World → Prop} (ho : o.op = .nilCheck x) (hx : ev E x = some (.pointer (some p))) : Gives P N o E I (.pointer (some p)) := fun a w ha _ => by
  unfold execOp; rw [ho]
  simp [ha.eval hx]
end
end Go.Proofs.Ytleckflmckbheaa

namespace Go.Proofs.Ytleckflmckbheaa
open Go.RowKit
section
variable {P : Program} {N : Fr} {Q : Exit → Act → World → Prop} {E : Env} {w0 : Base} {L : List Pc} {ops : Array Oper} {l : List Oper} {o : Oper} {I : World → Prop}
theorem TL.fact {p : Prop} (hp : ∀ w, I w → p) (h : p → TL P N ops Q l E I) : TL P N ops Q l E I := fun a w ha hw => h (hp w hw) a w ha hw
theorem gives_extract {x : Operand} {i : Nat} {vs : Array Value} {v : Value} (ho : o.op = .extract x i) (hx : ev E x = some (.tuple vs)) (hv : vs[i]? = some v) : Gives P N o E I v := fun a w ha _ => by
  unfold execOp; rw [ho]
  simp [ha.eval hx, Instr.extract, hv]
theorem ret_pair {fn : Func} {t u : Tmp} {v1 v2 : Value} {R : Ending → World → Prop} (hr : fn.results = #[.tmp t, .tmp u]) (h1 : look E t = some v1) (h2 : look E u = some v2) (hR : ∀ w, I w → R (.returned (.tuple #[v1, v2])) w) (hD : N.ds = [] := by rfl) : TX N (bodyPost P fn R) .ret E I := fun a w ha hw =>
  ⟨ha.defers.trans hD, .tuple #[v1, v2], by rw [results_tmp2 hr]; have e1 := ha.slot t _ h1; have e2 := ha.slot u _ h2; simp [e1, e2], hR w hw⟩
theorem TL.pcallPair {d : Nat} {f : FuncId} {fn : Func} {xs : List Operand} {ts : Array TypeId} {vs : List Value} {e : TypeId} {size n : Nat} {ys : List Value} {v : Value} (hg : o.guard = none) (hd : o.dst = some d) (hN : Nat.blt d N.n = true)
    (ho : o.op = .call { callee := .value (.func f), args := xs.toArray, argTypes := ts }) (hx : evs E xs = some vs) (hf : P.funcs[f]? = some fn) (hn : (fn.name == "runtime.NumGoroutine") = false) (hb : fn.body.isNone = false)
    (hc : ∀ w, Pm w0 L w → Calls P f vs.toArray w fun en w' => ∃ A c, en = .returned (.tuple #[.slice A n c, v]) ∧ n ≤ c ∧ c ≤ maxLen ∧ w'.ownsRow w.heap.size e size (.slice A n c) n ys ∧ Below w.heap.size w w')
    (h : ∀ A c, n ≤ c → c ≤ maxLen → TL P N ops Q l ((d, .tuple #[.slice A n c, v]) :: E) (Pm w0 (.row (.slice A n c) e size n ys :: L))) : TL P N ops Q (o :: l) E (Pm w0 L) :=
  TL.call (α := { p : Option Addr × Nat // n ≤ p.2 ∧ p.2 ≤ maxLen }) (r := fun p => .tuple #[.slice p.1.1 n p.1.2, v]) (I' := fun p => Pm w0 (.row (.slice p.1.1 n p.1.2) e size n ys :: L)) hg hd hN ho hx hf hn hb
    (fun w hw => (hc w hw).mono fun en w' ⟨A, c, he, h1, h2, h3, h4⟩ => ⟨⟨(A, c), h1, h2⟩, he, hw.add h4 h3⟩) (fun p => h p.1.1 p.1.2 p.2.1 p.2.2)
theorem gives_extern {f : FuncId} {fn : Func} {xs : List Operand} {ts : Array TypeId} {vs : List Value} {e : Array Value → Sem Value} {v : Value} (ho : o.op = .call { callee := .value (.func f), args := xs.toArray, argTypes := ts }) (hx : evs E xs = some vs)
    (hf : P.funcs[f]? = some fn) (hname : (fn.name == "runtime.NumGoroutine") = false) (hb : fn.body.isNone = true) (hn : Extern.findNext fn = none) (he : Extern.find fn = some e) (hv : ∀ w : World, (e vs.toArray).run P w = .ok v w) : Gives P N o E I v := fun a w ha _ => by
  unfold execOp; rw [ho]
  have harr : xs.toArray.map a.eval = vs.toArray := by rw [List.map_toArray, ha.evals hx]
  have hfn : a.eval (.func f) = .func (.func f) #[] #[] := rfl
  simp only [resolve, harr, hfn, Deferred.ofValue]
  simp [invoke, run_callFunc_extern hf hname hb hn he, hv, go_sem]
theorem gives_lenL {s : Operand} {t : TypeId} {b : List Int} (ho : o.op = .call { callee := .builtin .len, args := #[s], argTypes := #[t] }) (ht : P.underlying t = some .string) (hs : ev E s = some (.string (strOfNums b))) : Gives P N o E I (.int .i64 (b.length : Int)) := by
  have := gives_lenS (N := N) (I := I) ho ht hs
  rwa [strOfNums_size] at this
variable {xt : TypeId} {k : IntKind} {m n : Int}
theorem bin_lss_t (h : m < n) (w : World) : (binOp .lss xt (.int k m) (.int k n)).run P w = .ok (.bool true) w := by rw [bin_lss, decide_eq_true h]
theorem bin_lss_f (h : ¬ m < n) (w : World) : (binOp .lss xt (.int k m) (.int k n)).run P w = .ok (.bool false) w := by rw [bin_lss, decide_eq_false h]
theorem bin_gtr_t (h : m > n) (w : World) : (binOp .gtr xt (.int k m) (.int k n)).run P w = .ok (.bool true) w := by rw [bin_gtr, decide_eq_true h]
theorem bin_gtr_f (h : ¬ m > n) (w : World) : (binOp .gtr xt (.int k m) (.int k n)).run P w = .ok (.bool false) w := by rw [bin_gtr, decide_eq_false h]
theorem bin_eql_t (h : m = n) (w : World) : (binOp .eql xt (.int k m) (.int k n)).run P w = .ok (.bool true) w := by rw [bin_eql, decide_eq_true h]
theorem bin_eql_f (h : ¬ m = n) (w : World) : (binOp .eql xt (.int k m) (.int k n)).run P w = .ok (.bool false) w := by rw [bin_eql, decide_eq_false h]
theorem bin_neq_t (h : m ≠ n) (w : World) : (binOp .neq xt (.int k m) (.int k n)).run P w = .ok (.bool true) w := by rw [bin_neq, decide_eq_true h]
theorem bin_neq_f (h : m = n) (w : World) : (binOp .neq xt (.int k m) (.int k n)).run P w = .ok (.bool false) w := by rw [bin_neq, decide_eq_false (by simpa using h)]
theorem bin_remk (h0 : 0 ≤ m) (h1 : 0 < n) (w : World) : (binOp .rem xt (.int k m) (.int k n)).run P w = .ok (.int k (m % n)) w := by
  have hz : n ≠ 0 := by omega
  have := Int.tmod_eq_emod_of_nonneg (a := m) (b := n) h0
  simp [binOp, go_sem, Op.intDiv, hz, this]
theorem TL.vsplit {d : Nat} {b : Bool} (hg : o.guard = none) (hd : o.dst = some d) (hN : Nat.blt d N.n = true) (hv : Gives P N o E I (.bool b)) (ht : b = true → TL P N ops Q l ((d, .bool true) :: E) I) (hf : b = false → TL P N ops Q l ((d, .bool false) :: E) I) : TL P N ops Q (o :: l) E I := by
  cases b with
  | true => exact TL.val hg hd hN hv (ht rfl)
  | false => exact TL.val hg hd hN hv (hf rfl)
theorem TL.callsplit {d : Nat} {b : Bool} {f : FuncId} {fn : Func} {xs : List Operand} {ts : Array TypeId} {vs : List Value} (hg : o.guard = none) (hd : o.dst = some d) (hN : Nat.blt d N.n = true)
    (ho : o.op = .call { callee := .value (.func f), args := xs.toArray, argTypes := ts }) (hx : evs E xs = some vs) (hf : P.funcs[f]? = some fn) (hn : (fn.name == "runtime.NumGoroutine") = false) (hb : fn.body.isNone = false)
    (hc : ∀ w, Pm w0 L w → Calls P f vs.toArray w fun e w' => e = .returned (.bool b) ∧ Below w.heap.size w w') (ht : b = true → TL P N ops Q l ((d, .bool true) :: E) (Pm w0 L)) (hf' : b = false → TL P N ops Q l ((d, .bool false) :: E) (Pm w0 L)) : TL P N ops Q (o :: l) E (Pm w0 L) := by
  cases b with
  | true => exact TL.pcall1 hg hd hN ho hx hf hn hb hc (ht rfl)
  | false => exact TL.pcall1 hg hd hN ho hx hf hn hb hc (hf' rfl)
theorem TC.condT {c : Operand} {x y : Code} (hc : ev E c = some (.bool true)) (h : TC P N Q x E I) : TC P N Q (.cond c x y) E I := TC.split hc (fun _ => h) (fun e => by cases e)
theorem TC.condF {c : Operand} {x y : Code} (hc : ev E c = some (.bool false)) (h : TC P N Q y E I) : TC P N Q (.cond c x y) E I := TC.split hc (fun e => by cases e) (fun _ => h)
theorem bool_t {p : Prop} [Decidable p] (h : p) : Ending.returned (.bool true) = .returned (.bool (decide p)) := by rw [decide_eq_true h]
theorem bool_f {p : Prop} [Decidable p] (h : ¬ p) : Ending.returned (.bool false) = .returned (.bool (decide p)) := by rw [decide_eq_false h]
theorem gives_field {t : TypeId} {x : Operand} {i g off : Nat} {v : Value} (ho : o.op = .fieldAddr t x i) (hx : ev E x = some (.pointer (some ⟨g, off, none⟩))) (hv : ∀ w : World, (Instr.fieldAt t (.pointer (some ⟨g, off, none⟩)) i).run P w = .ok v w) : Gives P N o E I v := fun a w ha _ => by
  unfold execOp; rw [ho]
  simp only [ha.eval hx, Sem.run_bind, hv, Result.andThen_ok, Sem.run_pure]
def HoldsB (o : Obj) (l : List Int) : Prop := ∃ cs t f, o = .cells cs t f ∧ ∀ (j : Nat) (x : Int), l[j]? = some x → cs[j]? = some (Value.int .u8 x)
theorem byt_obj {w : World} {g n : Nat} {o : Obj} {l : List Int} (h : w.heap[g]? = some o) (ho : HoldsB o l) (hl : Bs l) (hn : l.length = n) : Byt w w.heap.size (some ⟨g, 0, none⟩) n l := by
  subst hn
  obtain ⟨cs, t, f, rfl, hc⟩ := ho
  refine ⟨⟨by simp [bv], fun _ => ⟨_, rfl, (Array.getElem?_eq_some_iff.1 h).1, fun j u hu => ?_⟩⟩, hl⟩
  have : (⟨g, 0, none⟩ : Addr).add j = ⟨g, j, none⟩ := by unfold Addr.add; split <;> simp_all
  rw [this, cell_of_row w g j _ t f h]
  simp only [bv, List.getElem?_map] at hu
  cases hj : l[j]? with
  | none => rw [hj] at hu; cases hu
  | some x => rw [hj] at hu; cases hu; exact hc j x hj
theorem holds_row {e : TypeId} {f : Nat × Nat} {l : List Int} (hl : Bs l) (cap : Nat) : HoldsB (.cells (bytesRow (strOfNums l) cap) e f) l := by
  refine ⟨_, _, _, rfl, fun j x hj => ?_⟩
  have hlt : j < l.length := (List.getElem?_eq_some_iff.1 hj).1
  unfold bytesRow
  rw [Array.getElem?_append_left (by rw [Array.size_map]; show j < (strOfNums l).size; rw [strOfNums_size]; exact hlt)]
  simp only [strOfNums, Array.getElem?_map, List.getElem?_toArray, List.getElem?_map, hj, Option.map_some]
  rw [u8_back (hl x (List.mem_of_getElem? hj))]
theorem TL.bytesOf {d n : Nat} {t u e : TypeId} {x : Operand} {b : List Int} (hg : o.guard = none) (hd : o.dst = some d) (hN : Nat.blt d N.n = true) (ho : o.op = .convert t u x) (hx : ev E x = some (.string (strOfNums b)))
    (hs : P.underlying t = some .string) (hu : P.underlying u = some (.slice e)) (he : P.underlying e = some (.int .u8)) (hb : Bs b) (hn : b.length = n) (hlim : n ≤ maxLen)
    (h : ∀ g c o', n ≤ c → c ≤ maxLen → HoldsB o' b → TL P N ops Q l ((d, .slice (some ⟨g, 0, none⟩) n c) :: E) (Pm w0 (.oth g o' :: L))) : TL P N ops Q (o :: l) E (Pm w0 L) := by
  subst hn
  refine TL.run (α := { p : Nat × Nat × Obj // b.length ≤ p.2.1 ∧ p.2.1 ≤ maxLen ∧ HoldsB p.2.2 b }) (r := fun p => .slice (some ⟨p.1.1, 0, none⟩) b.length p.1.2.1) (I' := fun p => Pm w0 (.oth p.1.1 p.1.2.2 :: L)) hg hd hN (fun a w ha hw => ?_) (fun p => h _ _ _ p.2.1 p.2.2.1 p.2.2.2)
  have hr := run_bytes_of_string (P := P) w t u e (strOfNums b) hs hu he
  rw [strOfNums_size] at hr
  obtain ⟨ob, hob⟩ : ∃ ob : Obj, ob = .cells (bytesRow (strOfNums b) (grownCap w b.length 0 e)) e ((bytesRow (strOfNums b) (grownCap w b.length 0 e)).size, (bytesRow (strOfNums b) (grownCap w b.length 0 e)).size + 1) := ⟨_, rfl⟩
  rw [← hob] at hr
  have hH : HoldsB ob b := by rw [hob]; exact holds_row hb _
  have hbel : Below w.heap.size w (w.drew.alloc ob) := ((Below.refl _ _).drew).alloc (Nat.le_refl _) ob
  have hok : Pc.ok w.heap.size (w.drew.alloc ob) (.oth w.heap.size ob) := ⟨heap_alloc_new w.drew ob, Nat.le_refl _⟩
  refine ⟨⟨(w.heap.size, grownCap w b.length 0 e, ob), grownCap_ge _ _ _ _, grownCap_le_maxLen _ _ _ _ hlim, hH⟩, w.drew.alloc ob, ?_, hw.add hbel hok⟩
  unfold execOp; rw [ho]
  simp only [ha.eval hx, Sem.run_bind, hr, Result.andThen_ok, Sem.run_pure]
theorem Pm.ne {w : World} {i j g g' : Nat} {p q : Pc} (h : Pm w0 L w) (hi : L[i]? = some p) (hj : L[j]? = some q) (hij : i < j) (hp : p.key = some g) (hq : q.key = some g') : g ≠ g' := by
  intro e
  subst e
  have := List.pairwise_iff_getElem.1 h.apart i j (List.getElem?_eq_some_iff.1 hi).1 (List.getElem?_eq_some_iff.1 hj).1 hij g (by rw [(List.getElem?_eq_some_iff.1 hi).2]; exact hp)
  rw [(List.getElem?_eq_some_iff.1 hj).2] at this
  exact this hq
end
end Go.Proofs.Ytleckflmckbheaa

namespace Go.Proofs.Ytleckflmckbheaa
open Go.RowKit
theorem Pm.neq {w0 : Base} {w : World} {L : List Pc} {i j : Nat} {p q : Pc} (h : Pm w0 L w) (hi : L[i]? = some p) (hj : L[j]? = some q) (hij : i ≠ j) : ∀ g, p.key = some g → q.key ≠ some g := by
  intro g hp hq
  obtain ⟨hi1, hi2⟩ := List.getElem?_eq_some_iff.1 hi
  obtain ⟨hj1, hj2⟩ := List.getElem?_eq_some_iff.1 hj
  rcases Nat.lt_or_gt_of_ne hij with h1 | h1
  · exact List.pairwise_iff_getElem.1 h.apart i j hi1 hj1 h1 g (by rw [hi2]; exact hp) (by rw [hj2]; exact hq)
  · exact List.pairwise_iff_getElem.1 h.apart j i hj1 hi1 h1 g (by rw [hj2]; exact hq) (by rw [hi2]; exact hp)
theorem Pm.pick {w0 : Base} {w : World} {L L' : List Pc} (h : Pm w0 L w) (ks : List Nat) (hn : ks.Nodup) (he : ks.map (fun k => L[k]?) = L'.map some) : Pm w0 L' w := by
  have key : ∀ (i : Nat) (p : Pc), L'[i]? = some p → ∃ k, ks[i]? = some k ∧ L[k]? = some p := by
    intro i p hi
    have e := congrArg (fun l => l[i]?) he
    simp only [List.getElem?_map, hi, Option.map_some] at e
    cases hk : ks[i]? with
    | none => rw [hk] at e; simp at e
    | some k => rw [hk] at e; simp only [Option.map_some, Option.some.injEq] at e; exact ⟨k, rfl, e⟩
  refine ⟨h.bel, fun p hp => ?_, ?_, h.oth, h.low⟩
  · obtain ⟨i, hi⟩ := List.getElem?_of_mem hp
    obtain ⟨k, _, hk⟩ := key i p hi
    exact h.own p (List.mem_of_getElem? hk)
  · refine List.pairwise_iff_getElem.2 fun i j hi hj hij => ?_
    obtain ⟨a, ha, hpa⟩ := key i _ (List.getElem?_eq_getElem hi)
    obtain ⟨b, hb, hpb⟩ := key j _ (List.getElem?_eq_getElem hj)
    refine h.neq hpa hpb fun e => ?_
    subst e
    obtain ⟨ha1, ha2⟩ := List.getElem?_eq_some_iff.1 ha
    obtain ⟨hb1, hb2⟩ := List.getElem?_eq_some_iff.1 hb
    have := (List.pairwise_iff_getElem.1 hn) i j ha1 hb1 hij
    rw [ha2, hb2] at this
    exact this rfl
section
variable {P : Program} {N : Fr} {Q : Exit → Act → World → Prop} {E : Env} {w0 : Base} {L : List Pc} {ops : Array Oper} {l : List Oper} {o : Oper}
theorem pm_loadV {t te : TypeId} {x : Operand} {g i k n : Nat} {v : Value} {cs : List Value} (ho : o.op = .load t x) (hx : ev E x = some (.pointer (some ⟨g, i, none⟩))) (hag : ∀ w : World, (isAgg t).run P w = .ok true w) (hs : ∀ w : World, (sizeOf t).run P w = .ok n w)
    (hk : L[k]? = some (.blk g te cs)) (hi : i + n ≤ cs.length) (hv : .agg ((cs.drop i).take n).toArray = v) : Gives P N o E (Pm w0 L) v := hv ▸ pm_loadAgg ho hx hag hs hk hi
theorem TL.prowS {d : Nat} {t e : TypeId} {n size : Nat} {xs : List (Nat × Operand)} {vs : List (Nat × Value)} {cs : List Value} (hg : o.guard = none) (hd : o.dst = some d) (hN : Nat.blt d N.n = true)
    (ho : o.op = .buildSlice t n xs.toArray) (hx : evp E xs = some vs) (hr : ∀ w : World, (Instr.buildSlice t n vs.toArray).run P w = .ok (.slice (some ⟨w.heap.size, 0, none⟩) n n) (w.alloc (.cells cs.toArray e))) (hn : n ≤ maxLen) (hc : cs.length = n * size)
    (h : ∀ g, TL P N ops Q l ((d, .slice (some ⟨g, 0, none⟩) n n) :: E) (Pm w0 (.row (.slice (some ⟨g, 0, none⟩) n n) e size n cs :: L))) : TL P N ops Q (o :: l) E (Pm w0 L) :=
  TL.run (α := Nat) (r := fun g => .slice (some ⟨g, 0, none⟩) n n) (I' := fun g => Pm w0 (.row (.slice (some ⟨g, 0, none⟩) n n) e size n cs :: L)) hg hd hN (fun a w ha hw => by
    refine ⟨w.heap.size, w.alloc (.cells cs.toArray e), ?_, hw.add ((Below.refl _ _).alloc (Nat.le_refl _) _) ⟨hc, .inr ⟨w.heap.size, n, cs.toArray, rfl, Nat.le_refl _, heap_alloc_new w _, Nat.le_refl _, hn, by simpa using hc, ?_⟩⟩⟩
    · unfold execOp; rw [ho]
      simp only [ha.evalps hx, Sem.run_bind, hr, Result.andThen_ok, Sem.run_pure, List.map_toArray]
    · simp [← hc]) h
theorem TL.stcall {d : Nat} {I : World → Prop} {f : FuncId} {fn : Func} {xs : List Operand} {ts : Array TypeId} {vs : List Value} {r : Value} (hg : o.guard = none) (hd : o.dst = some d) (hN : Nat.blt d N.n = true)
    (ho : o.op = .call { callee := .value (.func f), args := xs.toArray, argTypes := ts }) (hx : evs E xs = some vs) (hf : P.funcs[f]? = some fn) (hn : (fn.name == "runtime.NumGoroutine") = false) (hb : fn.body.isNone = false)
    (hc : ∀ w, I w → Calls P f vs.toArray w fun e w' => e = .returned r ∧ w' = w) (h : TL P N ops Q l ((d, r) :: E) I) : TL P N ops Q (o :: l) E I :=
  TL.call (α := Unit) (r := fun _ => r) (I' := fun _ => I) hg hd hN ho hx hf hn hb (fun w hw => (hc w hw).mono fun e w' ⟨he, hb⟩ => ⟨(), he, hb ▸ hw⟩) (fun _ => h)
theorem TS.call {d : Nat} {I : World → Prop} {R : Act → World → Prop} {f : FuncId} {fn : Func} {xs : List Operand} {ts : Array TypeId} {vs : List Value} {r : Value} (hg : o.guard = none) (hd : o.dst = some d) (hN : Nat.blt d N.n = true)
    (ho : o.op = .call { callee := .value (.func f), args := xs.toArray, argTypes := ts }) (hx : evs E xs = some vs) (hf : P.funcs[f]? = some fn) (hn : (fn.name == "runtime.NumGoroutine") = false) (hb : fn.body.isNone = false)
    (hc : ∀ w, I w → Calls P f vs.toArray w fun e w' => e = .returned r ∧ w' = w) (h : TS P N ops R l ((d, r) :: E) I) : TS P N ops R (o :: l) E I := fun a w ha hw => by
  unfold wpStill
  rw [if_pos (by simp [Region.wanted, hg])]
  unfold Oper.still
  rw [enters ha ho hx hf hn hb]
  refine ⟨rfl, r, hc w hw, ?_⟩
  rw [hd]
  exact h _ _ (ha.put d r (by simpa [Nat.blt_eq] using hN)) hw
theorem ret_cell2 {fn : Func} {p u : Tmp} {t te : TypeId} {g k : Nat} {cs : List Value} {v : Value} {d : TypeDesc} {R : Ending → World → Prop} (hr : fn.results = #[.cell p t, .tmp u]) (hp : look E p = some (.pointer (some ⟨g, 0, none⟩))) (hv : look E u = some v) (hk : L[k]? = some (.blk g te cs))
    (hu : P.underlying t = some d) (hd : (match d with | .struct _ | .array _ _ => true | _ => false) = true) (hi : (P.info? t).map (·.size) = some cs.length) (hR : ∀ w, Pm w0 L w → R (.returned (.tuple #[.agg cs.toArray, v])) w) (hD : N.ds = [] := by rfl) :
    TX N (bodyPost P fn R) .ret E (Pm w0 L) := fun a w ha hw =>
  ⟨ha.defers.trans hD, .tuple #[.agg cs.toArray, v], by
    have e1 := ha.slot p _ hp
    have e2 := ha.slot u _ hv
    simp [results, hr, e1, e2, asAddr, run_loadVar_row w g te t cs.toArray (0, 0) d (hw.at_ hk).1 hu hd (by simpa using hi)], hR w hw⟩
theorem ret_cell3 {fn : Func} {p u u2 : Tmp} {t te : TypeId} {g k : Nat} {cs : List Value} {v v2 : Value} {d : TypeDesc} {R : Ending → World → Prop} (hr : fn.results = #[.cell p t, .tmp u, .tmp u2]) (hp : look E p = some (.pointer (some ⟨g, 0, none⟩))) (hv : look E u = some v) (hv2 : look E u2 = some v2) (hk : L[k]? = some (.blk g te cs))
    (hu : P.underlying t = some d) (hd : (match d with | .struct _ | .array _ _ => true | _ => false) = true) (hi : (P.info? t).map (·.size) = some cs.length) (hR : ∀ w, Pm w0 L w → R (.returned (.tuple #[.agg cs.toArray, v, v2])) w) (hD : N.ds = [] := by rfl) :
    TX N (bodyPost P fn R) .ret E (Pm w0 L) := fun a w ha hw =>
  ⟨ha.defers.trans hD, .tuple #[.agg cs.toArray, v, v2], by
    have e1 := ha.slot p _ hp
    have e2 := ha.slot u _ hv
    have e3 := ha.slot u2 _ hv2
    simp [results, hr, e1, e2, e3, asAddr, run_loadVar_row w g te t cs.toArray (0, 0) d (hw.at_ hk).1 hu hd (by simpa using hi)], hR w hw⟩
theorem ret_cell4 {fn : Func} {p u u2 u3 : Tmp} {t te : TypeId} {g k : Nat} {cs : List Value} {v v2 v3 : Value} {d : TypeDesc} {R : Ending → World → Prop} (hr : fn.results = #[.tmp u, .tmp u2, .cell p t, .tmp u3]) (hp : look E p = some (.pointer (some ⟨g, 0, none⟩))) (hv : look E u = some v) (hv2 : look E u2 = some v2) (hv3 : look E u3 = some v3) (hk : L[k]? = some (.blk g te cs))
    (hu : P.underlying t = some d) (hd : (match d with | .struct _ | .array _ _ => true | _ => false) = true) (hi : (P.info? t).map (·.size) = some cs.length) (hR : ∀ w, Pm w0 L w → R (.returned (.tuple #[v, v2, .agg cs.toArray, v3])) w) (hD : N.ds = [] := by rfl) :
    TX N (bodyPost P fn R) .ret E (Pm w0 L) := fun a w ha hw =>
  ⟨ha.defers.trans hD, .tuple #[v, v2, .agg cs.toArray, v3], by
    have e1 := ha.slot p _ hp
    have e2 := ha.slot u _ hv
    have e3 := ha.slot u2 _ hv2
    have e4 := ha.slot u3 _ hv3
    simp [results, hr, e1, e2, e3, e4, asAddr, run_loadVar_row w g te t cs.toArray (0, 0) d (hw.at_ hk).1 hu hd (by simpa using hi)], hR w hw⟩
theorem conv_byt {src dst e : TypeId} (hs : P.underlying src = some (.slice e)) (he : P.underlying e = some (.int .u8)) (hd : P.underlying dst = some .string) {w : World} {B n c : Nat} {A : Option Addr} {l : List Int} (h : Byt w B A n l) :
    (convert src dst (.slice A n c)).run P w = .ok (sv l) w := by
  rcases Nat.eq_zero_or_pos n with hn | hn
  · subst hn
    have e0 : l = [] := List.eq_nil_of_length_eq_zero h.len
    subst e0
    rw [run_convert_bytes_string w src dst e _ 0 c hs he hd]
    cases A with
    | none => simp [Conv.bytesToString]; rfl
    | some a => simp [Conv.bytesToString, loadCells]; rfl
  · obtain ⟨b, o, x, rfl, _⟩ := h.at' (k := 0) hn
    refine run_convert_bytes_arg w src _ hs he b o n c l h.len (fun i hi => ?_) dst hd
    obtain ⟨b', o', y, hA, _, hy, _, _, hc⟩ := h.at' (k := i) hi
    cases hA
    rw [hc]
    simp [List.getD, hy]
theorem gives_strB {src dst e : TypeId} {x : Operand} {A : Option Addr} {n c : Nat} {l : List Int} {I : World → Prop} (ho : o.op = .convert src dst x) (hx : ev E x = some (.slice A n c)) (hs : P.underlying src = some (.slice e)) (he : P.underlying e = some (.int .u8)) (hd : P.underlying dst = some .string)
    (hb : ∀ w, I w → ∃ B, Byt w B A n l) : Gives P N o E I (sv l) := fun a w ha hw => by
  obtain ⟨B, h⟩ := hb w hw
  unfold execOp; rw [ho]
  simp only [ha.eval hx, Sem.run_bind, conv_byt hs he hd h, Result.andThen_ok, Sem.run_pure]
end
theorem addr_zero (a : Addr) : a.add 0 = a := by cases a; simp [Addr.add]
section
variable {P : Program} {N : Fr} {E : Env} {o : Oper}
theorem cut_hi {t : TypeId} {size : Nat} (ht : P.underlying t = some (.slice (P.elem t))) (hs : ∀ w : World, (sizeOf (P.elem t)).run P w = .ok size w) (A : Option Addr) (n c hi : Nat) {k : IntKind} {a : Int} (ha : a = (hi : Int)) (h : hi ≤ c) (w : World) :
    (Instr.sliceAt t (.slice A n c) none (some (.int k a)) none).run P w = .ok (.slice A hi c) w := by
  subst ha
  rw [run_sliceAt_slice w t _ _ _ _ ht, run_slice_h w t A n c ht k hi (by omega) (by omega)]
  simp only [hs, Result.andThen, sliced, Int.toNat_natCast, Nat.zero_mul, Nat.sub_zero]
  congr 2
  cases A with
  | none => simp
  | some a => simp [addr_zero]
theorem gives_sliceH {t : TypeId} {x hi : Operand} {vx vh v : Value} {I : World → Prop} (ho : o.op = .slice t x none (some hi) none) (hx : ev E x = some vx) (hh : ev E hi = some vh) (hv : ∀ w : World, (Instr.sliceAt t vx none (some vh) none).run P w = .ok v w) : Gives P N o E I v := fun a w ha _ => by
  unfold execOp; rw [ho]
  simp only [Option.map_some, Option.map_none, ha.eval hx, ha.eval hh, Sem.run_bind, hv, Result.andThen_ok, Sem.run_pure]
end
theorem byt_ne {w : World} {B g n : Nat} {A : Option Addr} {l : List Int} (h : Byt w B A n l) (hg : B ≤ g) : 0 < n → ∀ ad, A = some ad → ad.block ≠ g := by
  intro hn ad e
  obtain ⟨ad', h1, h2, _⟩ := h.1.2 hn
  rw [e] at h1
  cases h1
  omega
theorem byt_grown' {w w1 : World} {cb n : Nat} {A : Option Addr} {l : List Int} (h : Byt w w.heap.size A n l) (hne : 0 < n → ∀ ad, A = some ad → ad.block ≠ cb) (hg : w.grownBy w1 (some cb)) : Byt w1 w1.heap.size A n l := by
  rcases Nat.eq_zero_or_pos n with hn | hn
  · subst hn
    exact ⟨⟨h.1.1, fun hn => absurd hn (by omega)⟩, h.2⟩
  · exact byt_grown h (hne hn) hg
end Go.Proofs.Ytleckflmckbheaa

namespace Go.Proofs.Ytleckflmckbheaa
open Go.RowKit
theorem Reads.ad {w : World} {B size n : Nat} {A : Option Addr} {xs : List Value} (h : Reads w B size A n xs) (hn : 0 < n) (hs : 0 < size) : ∃ b o, A = some ⟨b, o, none⟩ ∧ b < B ∧ ∀ (j : Nat) (u : Value), xs[j]? = some u → w.cell? ⟨b, o + j, none⟩ = some u := by
  obtain ⟨⟨b, o, sp⟩, hA, hb, hc⟩ := h.2 hn
  have hl : 0 < xs.length := by rw [h.1]; exact Nat.mul_pos hn hs
  have hsp : sp = none := by
    have := hc 0 xs[0] (List.getElem?_eq_getElem hl)
    simpa [Addr.add] using World.cell?_spot this
  subst hsp
  refine ⟨b, o, hA, hb, fun j u hu => ?_⟩
  have e : (⟨b, o, none⟩ : Addr).add j = ⟨b, o + j, none⟩ := by unfold Addr.add; split <;> simp_all
  rw [← e]
  exact hc j u hu
section
variable {P : Program} {N : Fr} {Q : Exit → Act → World → Prop} {E : Env} {w0 : Base} {L : List Pc} {ops : Array Oper} {l : List Oper} {o : Oper} {I : World → Prop}
theorem at_el {t e : TypeId} {size : Nat} (ht : P.underlying t = some (.slice e)) (hs : ∀ w : World, (sizeOf e).run P w = .ok size w) {A : Option Addr} {b off : Nat} (hA : A = some ⟨b, off, none⟩) (n c i : Nat) (hi : i < n) {z : Int} (hz : z = (i : Int)) (w : World) :
    (Instr.indexAt t (.slice A n c) (.int .i64 z)).run P w = .ok (.pointer (some ⟨b, off + i * size, none⟩)) w := by
  subst hA hz
  have h1 : (0 : Int) ≤ (i : Int) ∧ (i : Int) < n := by omega
  have hadd : (⟨b, off, none⟩ : Addr).add (i * size) = ⟨b, off + i * size, none⟩ := by unfold Addr.add; split <;> simp_all
  simp [Instr.indexAt, run_underlying ht, asIntOf, hs, h1, hadd, go_sem]
  try (intro hh; exact absurd hh (by omega))
theorem append_types {t u e e' : TypeId} (ht : P.underlying t = some (.slice e)) (hu : P.underlying u = some (.slice e')) (ty : TypeId) (vs : Array Value) (w : World) : (Builtin.append_ #[t, u] ty vs).run P w = (Builtin.append_ #[t, t] ty vs).run P w := by
  unfold Builtin.append_
  cases h0 : vs[0]? with
  | none => simp [h0]
  | some s =>
    cases h1 : vs[1]? with
    | none => simp [h0, h1]
    | some x =>
      cases s <;> simp [h0, h1, Sem.run_bind, run_underlying ht, run_underlying hu]
theorem TL.appendT {d k : Nat} {s x : Operand} {t u e e' : TypeId} {size bytes n c m cc : Nat} {A0 A : Option Addr} {olds news : List Value} (hg : o.guard = none) (hd : o.dst = some d) (hN : Nat.blt d N.n = true)
    (ho : o.op = .call { callee := .builtin .append, args := #[s, x], argTypes := #[t, u] }) (hu : P.underlying u = some (.slice e')) (hE : Elem P t e size bytes) (hs : ev E s = some (.slice A0 n c)) (hx : ev E x = some (.slice A m cc))
    (hk : L[k]? = some (.row (.slice A0 n c) e size n olds)) (hr : ∀ w, Pm w0 L w → ∃ B, Reads w B size A m news) (h1 : ∀ u ∈ news, u.oneCell' = true) (hlim : (n + m) * bytes ≤ 140737488355328) (M : Nat) (hM : M = n + m) (res : List Value) (hres : olds ++ news = res)
    (h : ∀ A' c', M ≤ c' → c' ≤ maxLen → TL P N ops Q l ((d, .slice A' M c') :: E) (Pm w0 (L.set k (.row (.slice A' M c') e size M res)))) : TL P N ops Q (o :: l) E (Pm w0 L) := by
  subst hM hres
  refine TL.run (α := { p : Option Addr × Nat // n + m ≤ p.2 ∧ p.2 ≤ maxLen }) (r := fun p => .slice p.1.1 (n + m) p.1.2) (I' := fun p => Pm w0 (L.set k (.row (.slice p.1.1 (n + m) p.1.2) e size (n + m) (olds ++ news)))) hg hd hN (fun a w ha hw => ?_) (fun p => h p.1.1 p.1.2 p.2.1 p.2.2)
  obtain ⟨i, z, hi, hz, hsz, hby, hzs⟩ := hE.info
  obtain ⟨B, hrd⟩ := hr w hw
  have hmx : n + m ≤ maxLen := by
    have : n + m ≤ (n + m) * bytes := Nat.le_mul_of_pos_right _ hE.big
    unfold maxLen; omega
  obtain ⟨v', w', hrun, hown', hgr, hkey⟩ := run_append_any (P := P) w w0.b t o.type e i z size bytes hE.und hi hz hsz hby hzs hE.pos _ n olds (hw.at_ hk) B A m cc news hrd h1 hmx hlim hw.base
  rw [← append_types hE.und hu] at hrun
  obtain ⟨A', c', rfl, hc1, hc2⟩ := own_shape hown'
  refine ⟨⟨(A', c'), hc1, hc2⟩, w', ?_, hw.turn hk hgr hown' (fun g hg => ?_) (fun k o e => ?_)⟩
  · unfold execOp; rw [ho]
    simp only [resolve, invoke, builtin, Sem.run_bind, Sem.run_pure, Result.andThen_ok, List.map_toArray, List.map_cons, List.map_nil, ha.eval hs, ha.eval hx, hrun]
  · rcases hkey with hkey | hkey
    · exact .inl (hkey.symm.trans hg)
    · right
      have : (Value.slice A' (n + m) c').ownBlock = some g := hg
      rw [hkey] at this
      injection this with this
      omega
  · cases e
/-! guards in a quiet drawn region -/
theorem TQ.on {R : Act → Prop} {j d : Nat} {b : Bool} (hg : o.guard = some (j, b)) (hd : (ops[j]?).bind (·.dst) = some d) (hE : look E d = some (.bool b)) (h : TQ P N ops R ({ o with guard := none } :: l) E I) : TQ P N ops R (o :: l) E I := fun a ha => by
  have hw1 := wanted_of ha hg hd hE
  have := h a ha
  unfold wpQuiet at this ⊢
  rw [if_pos (by simp [Region.wanted])] at this
  rw [if_pos (by simp [hw1])]
  exact this
theorem TQ.off {R : Act → Prop} {j d t : Nat} {b b' : Bool} (hg : o.guard = some (j, b')) (hd : (ops[j]?).bind (·.dst) = some d) (hE : look E d = some (.bool b)) (hne : (b == b') = false) (ht : o.dst = some t) (hN : Nat.blt t N.n = true) (h : TQ P N ops R l ((t, undef) :: E) I) : TQ P N ops R (o :: l) E I := fun a ha => by
  have hw1 := wanted_of ha hg hd hE
  unfold wpQuiet
  rw [if_neg (by rw [hw1, hne]; decide), ht]
  exact h _ (ha.put t undef (by simpa [Nat.blt_eq] using hN))
theorem TQ.offU {R : Act → Prop} {j d t : Nat} {b' : Bool} (hg : o.guard = some (j, b')) (hd : (ops[j]?).bind (·.dst) = some d) (hE : look E d = some undef) (ht : o.dst = some t) (hN : Nat.blt t N.n = true) (h : TQ P N ops R l ((t, undef) :: E) I) : TQ P N ops R (o :: l) E I := fun a ha => by
  have h1 : yielded ops a.tmps j = none := by
    have := ha.slot d _ hE
    simp [yielded, hd, this, undef]
  have hw1 : Region.wanted o (yielded ops a.tmps) = false := by
    unfold Region.wanted
    rw [hg]
    simp [h1]
  unfold wpQuiet
  rw [if_neg (by rw [hw1]; decide), ht]
  exact h _ (ha.put t undef (by simpa [Nat.blt_eq] using hN))
theorem gives_loadR {t : TypeId} {x : Operand} {b off size : Nat} {cs : List Value} (ho : o.op = .load t x) (hx : ev E x = some (.pointer (some ⟨b, off, none⟩))) (hag : ∀ w : World, (isAgg t).run P w = .ok true w) (hs : ∀ w : World, (sizeOf t).run P w = .ok size w) (hlen : cs.length = size)
    (hc : ∀ w, I w → ∀ (j : Nat) (u : Value), cs[j]? = some u → w.cell? ⟨b, off + j, none⟩ = some u) : Gives P N o E I (.agg cs.toArray) := fun a w ha hw => by
  unfold execOp; rw [ho]
  simp only [ha.eval hx]
  have hl := run_loadCells_list (P := P) w ⟨b, off, none⟩ cs (fun j v hj => by
    have hadd : (⟨b, off, none⟩ : Addr).add j = ⟨b, off + j, none⟩ := by unfold Addr.add; split <;> simp_all
    rw [hadd]
    exact hc w hw j v hj)
  rw [hlen] at hl
  simp only [Instr.loadAt, Instr.sureAddr, Sem.run_bind, Sem.run_pure, Result.andThen_ok, loadVar, hag, hs, hl, if_true]
end
end Go.Proofs.Ytleckflmckbheaa

namespace Go.Proofs.Ytleckflmckbheaa
open Go.RowKit
open Go.WideElems (Fit rg)
structure IMap (P : Program) (t k e : TypeId) (qk qe : IntKind) : Prop where
  ht : P.underlying t = some (.map k e)
  hk : P.underlying k = some (.int qk)
  he : P.underlying e = some (.int qe)
  hz : ∀ w : World, (zeroValue e).run P w = .ok (.int qe 0) w
def MapII (P : Program) (k e : TypeId) (qk qe : IntKind) (o : Obj) (n : Nat) (f : Int → Option Int) : Prop :=
  ∃ (es : Array MapEntry) (clock : Nat) (D : DataW Unit), o = .map es clock ∧ Fit (H := Unit) P k (plainElem P e) es clock ∧ es.size = n ∧ D = .map ((es.toList.map (rg P k (plainElem P e))).foldr DataW.insert []) ∧
    ∀ a, (Lit.int qk a).wf = true → Maps.has D (.int qk a) = (f a).isSome ∧ D.atKey (.int qk a) (.lit (.int qe 0)) = .lit (.int qe ((f a).getD 0))
section
variable {P : Program} {t k e : TypeId} {qk qe : IntKind} {o : Obj} {n g : Nat} {f : Int → Option Int} {w : World}
theorem MapII.owns (h : MapII P k e qk qe o n f) (hb : w.heap[g]? = some o) : ∃ D : DataW Unit, (w.ownsMap P k (plainElem P e) g n D ∧ Maps.size D = n) ∧ ∀ a, (Lit.int qk a).wf = true → Maps.has D (.int qk a) = (f a).isSome ∧ D.atKey (.int qk a) (.lit (.int qe 0)) = .lit (.int qe ((f a).getD 0)) := by
  obtain ⟨es, clock, D, rfl, F, hs, hD, hf⟩ := h
  exact ⟨D, ⟨⟨es, clock, hb, F, Nat.le_of_eq hs, hD⟩, by rw [hD, ← hs]; rw [Maps.size, length_read]⟩, hf⟩
theorem MapII.of_owns {D : DataW Unit} {m : Nat} (h : w.ownsMap P k (plainElem P e) g n D) (hm : Maps.size D = m) (hf : ∀ a, (Lit.int qk a).wf = true → Maps.has D (.int qk a) = (f a).isSome ∧ D.atKey (.int qk a) (.lit (.int qe 0)) = .lit (.int qe ((f a).getD 0))) : ∃ o, w.heap[g]? = some o ∧ MapII P k e qk qe o m f := by
  obtain ⟨es, clock, hb, F, hs, hD⟩ := h
  exact ⟨_, hb, es, clock, D, rfl, F, by rw [← hm, hD]; rw [Maps.size, length_read], hD, hf⟩
theorem mapII_new (P : Program) (k e : TypeId) (qk qe : IntKind) : MapII P k e qk qe (.map #[] 0) 0 (fun _ => none) := by
  let w : World := default
  obtain ⟨o, ho, hm⟩ := MapII.of_owns (qk := qk) (qe := qe) (f := fun _ => none) (World.ownsMap_made (H := Unit) w P k (plainElem P e)) rfl (fun a _ => ⟨rfl, rfl⟩)
  have : o = .map #[] 0 := by
    have h2 := heap_alloc_new w (.map #[] 0)
    rw [ho] at h2
    exact Option.some.inj h2
  rw [← this]
  exact hm
theorem MapII.look (h : MapII P k e qk qe o n f) (T : IMap P t k e qk qe) (hb : w.heap[g]? = some o) {a : Int} (ha : (Lit.int qk a).wf = true) : (Instr.lookup t (.map (some g)) (.int qk a) false).run P w = .ok (.int qe ((f a).getD 0)) w := by
  obtain ⟨D, ⟨hD, hsz⟩, hf⟩ := h.owns hb
  obtain ⟨c, hrun, hat, _⟩ := hD.lookup_int (Maps.int_keyed T.hk) T.ht T.he (T.hz w) (Maps.keyOf_int_mk T.hk ha)
  rw [(hf a ha).2] at hat
  have : (f a).getD 0 = c := by injection hat with hat; injection hat
  rw [this]
  exact hrun
theorem MapII.lookOk (h : MapII P k e qk qe o n f) (T : IMap P t k e qk qe) (hb : w.heap[g]? = some o) {a : Int} (ha : (Lit.int qk a).wf = true) : (Instr.lookup t (.map (some g)) (.int qk a) true).run P w = .ok (.tuple #[.int qe ((f a).getD 0), .bool (f a).isSome]) w := by
  obtain ⟨D, ⟨hD, hsz⟩, hf⟩ := h.owns hb
  have hw0 : (Lit.int qe 0).wf = true := by cases qe <;> decide
  obtain ⟨v, ps, hrun, hv⟩ := hD.look_ok (Maps.int_keyed T.hk) T.ht (T.hz w) (plainElem_int T.he hw0) (Maps.keyOf_int_mk T.hk ha)
  obtain ⟨c, rfl, hc, _⟩ := plainElem_int_inv T.he hv
  simp only [Prod.mk.injEq] at hc
  have hc1 := hc.1
  rw [(hf a ha).2] at hc1
  have : (f a).getD 0 = c := by injection hc1 with hc1; injection hc1
  rw [this, ← (hf a ha).1]
  exact hrun
theorem MapII.put (h : MapII P k e qk qe o n f) (T : IMap P t k e qk qe) (hn : n < maxLen) (hb : w.heap[g]? = some o) {a b : Int} (ha : (Lit.int qk a).wf = true) (hbw : (Lit.int qe b).wf = true) :
    ∃ o' w', (Instr.mapUpdate t (.map (some g)) (.int qk a) (.int qe b)).run P w = .ok () w' ∧ w'.heap[g]? = some o' ∧ MapII P k e qk qe o' (if (f a).isSome then n else n + 1) (fun z => if z = a then some b else f z) ∧ w.grownBy w' (some g) := by
  obtain ⟨D, ⟨hD, hsz⟩, hf⟩ := h.owns hb
  have hk := Maps.keyOf_int_mk T.hk ha
  obtain ⟨w', hrun, hD', hg⟩ := hD.update (Maps.int_keyed T.hk) T.ht hn hk (plainElem_int T.he hbw)
  obtain ⟨o', ho', hm'⟩ := MapII.of_owns (qk := qk) (qe := qe) (f := fun z => if z = a then some b else f z) hD' (by rw [Maps.size_put (hD.tidy (Maps.int_keyed T.hk)), hsz, (hf a ha).1]) (fun z hz => by
    by_cases e1 : z = a
    · subst e1
      rw [if_pos rfl]
      exact ⟨Maps.has_put_same hD.isMap ((Maps.int_keyed T.hk).key hk) _, Maps.atKey_put_same hD.isMap ((Maps.int_keyed T.hk).key hk) _ _⟩
    · have hne : (Lit.int qk z) ≠ .int qk a := fun hh => e1 (by injection hh)
      rw [if_neg e1, Maps.has_put_other hne, Maps.atKey_put_other hne]
      exact hf z hz)
  exact ⟨o', w', hrun, ho', hm', hg⟩
end
section
variable {P : Program} {N : Fr} {Q : Exit → Act → World → Prop} {E : Env} {w0 : Base} {L : List Pc} {ops : Array Oper} {l : List Oper} {o : Oper} {w w' : World}
def Mine (w0 : Base) (g : Nat) : Prop := ∀ o, w0.w.heap[g]? = some o → o.isCells = true
theorem mine_new {w0 : Base} {g : Nat} (h : w0.w.heap.size ≤ g) : Mine w0 g := fun o ho => by
  have := (Array.getElem?_eq_some_iff.1 ho).1
  omega
theorem Pm.turnO (h : Pm w0 L w) {k g : Nat} {ob ob' : Obj} (hk : L[k]? = some (.oth g ob)) (hnew : Mine w0 g) (hg : w.grownBy w' (some g)) (hb : w'.heap[g]? = some ob') : Pm w0 (L.set k (.oth g ob')) w' := by
  have hpo := h.at_ hk
  refine ⟨h.bel.grown hg h.base fun j e => by cases e; exact hpo.2, fun q hq => ?_, ?_, ⟨Nat.le_trans h.oth.size hg.size, fun j x hj hx => ?_⟩, h.low⟩
  · obtain ⟨i, hi⟩ := List.getElem?_of_mem hq
    rw [List.getElem?_set] at hi
    by_cases e : k = i
    · subst e
      have hlt := (List.getElem?_eq_some_iff.1 hk).1
      simp [hlt] at hi
      subst hi
      exact ⟨hb, hpo.2⟩
    · rw [if_neg e] at hi
      refine Pc.same (h.at_ hi) (fun j hj => hg.block j (Pc.lt (h.at_ hi) j hj).2 fun he => ?_) (fun j hj => hg.block j (Nat.lt_of_lt_of_le hj h.base) fun he => ?_)
      · cases he
        exact h.neq hk hi e g rfl hj
      · cases he
        have := hpo.2
        omega
  · refine List.pairwise_iff_getElem.2 fun i j hi hj hij x hxi hxj => ?_
    have key : ∀ (m : Nat) (hm : m < (L.set k (.oth g ob')).length), ((L.set k (.oth g ob'))[m]).key = (L[m]'(by simpa using hm)).key := fun m hm => by
      rw [List.getElem_set]
      split
      · rename_i e
        subst e
        rw [(List.getElem?_eq_some_iff.1 hk).2]
        rfl
      · rfl
    rw [key] at hxi hxj
    exact List.pairwise_iff_getElem.1 h.apart i j (by simpa using hi) (by simpa using hj) hij x hxi hxj
  · have h1 := h.oth.same j x hj hx
    exact (hg.block j (Array.getElem?_eq_some_iff.1 h1).1 fun he => by cases he; rw [hnew x hj] at hx; cases hx).trans h1
theorem TL.mkmap {d : Nat} {t : TypeId} (hg : o.guard = none) (hd : o.dst = some d) (hN : Nat.blt d N.n = true) (ho : o.op = .makeMap t none)
    (h : ∀ g, Mine w0 g → TL P N ops Q l ((d, .map (some g)) :: E) (Pm w0 (.oth g (.map #[] 0) :: L))) : TL P N ops Q (o :: l) E (Pm w0 L) :=
  TL.run (α := {g : Nat // w0.w.heap.size ≤ g}) (r := fun g => .map (some g.1)) (I' := fun g => Pm w0 (.oth g.1 (.map #[] 0) :: L)) hg hd hN (fun a w ha hw => by
    refine ⟨⟨w.heap.size, hw.oth.size⟩, w.alloc (.map #[] 0), ?_, hw.add ((Below.refl _ _).alloc (Nat.le_refl _) _) ⟨heap_alloc_new w _, Nat.le_refl _⟩⟩
    unfold execOp; rw [ho]
    rfl) (fun g => h g.1 (mine_new g.2))
theorem gives_look {x y : Operand} {t k e : TypeId} {qk qe : IntKind} {g i n : Nat} {ob : Obj} {f : Int → Option Int} {a : Int} (ho : o.op = .lookup t x y false) (hx : ev E x = some (.map (some g))) (hy : ev E y = some (.int qk a)) (T : IMap P t k e qk qe) (hk : L[i]? = some (.oth g ob)) (hm : MapII P k e qk qe ob n f) (ha : (Lit.int qk a).wf = true) :
    Gives P N o E (Pm w0 L) (.int qe ((f a).getD 0)) := fun ac w hac hw => by
  unfold execOp; rw [ho]
  simp only [hac.eval hx, hac.eval hy, hm.look T (hw.at_ hk).1 ha, Sem.run_bind, Result.andThen_ok, Sem.run_pure]
theorem gives_lookOk {x y : Operand} {t k e : TypeId} {qk qe : IntKind} {g i n : Nat} {ob : Obj} {f : Int → Option Int} {a : Int} (ho : o.op = .lookup t x y true) (hx : ev E x = some (.map (some g))) (hy : ev E y = some (.int qk a)) (T : IMap P t k e qk qe) (hk : L[i]? = some (.oth g ob)) (hm : MapII P k e qk qe ob n f) (ha : (Lit.int qk a).wf = true) :
    Gives P N o E (Pm w0 L) (.tuple #[.int qe ((f a).getD 0), .bool (f a).isSome]) := fun ac w hac hw => by
  unfold execOp; rw [ho]
  simp only [hac.eval hx, hac.eval hy, hm.lookOk T (hw.at_ hk).1 ha, Sem.run_bind, Result.andThen_ok, Sem.run_pure]
theorem gives_lookNone {x y : Operand} {t k e : TypeId} {qk qe : IntKind} {g i n : Nat} {ob : Obj} {f : Int → Option Int} {a : Int} (ho : o.op = .lookup t x y true) (hx : ev E x = some (.map (some g))) (hy : ev E y = some (.int qk a)) (T : IMap P t k e qk qe) (hk : L[i]? = some (.oth g ob)) (hm : MapII P k e qk qe ob n f) (ha : (Lit.int qk a).wf = true) (hf : f a = none) :
    Gives P N o E (Pm w0 L) (.tuple #[.int qe 0, .bool false]) := by
  have := gives_lookOk (N := N) (w0 := w0) ho hx hy T hk hm ha
  rw [hf] at this
  exact this
theorem gives_lookSome {x y : Operand} {t k e : TypeId} {qk qe : IntKind} {g i n : Nat} {ob : Obj} {f : Int → Option Int} {a b : Int} (ho : o.op = .lookup t x y true) (hx : ev E x = some (.map (some g))) (hy : ev E y = some (.int qk a)) (T : IMap P t k e qk qe) (hk : L[i]? = some (.oth g ob)) (hm : MapII P k e qk qe ob n f) (ha : (Lit.int qk a).wf = true) (hf : f a = some b) :
    Gives P N o E (Pm w0 L) (.tuple #[.int qe b, .bool true]) := by
  have := gives_lookOk (N := N) (w0 := w0) ho hx hy T hk hm ha
  rw [hf] at this
  exact this
theorem TL.mapset {x y z : Operand} {t k e : TypeId} {qk qe : IntKind} {g i n : Nat} {ob : Obj} {f : Int → Option Int} {a b : Int} (hg : o.guard = none) (hd : o.dst = none) (ho : o.op = .mapUpdate t x y z) (hx : ev E x = some (.map (some g))) (hy : ev E y = some (.int qk a)) (hz : ev E z = some (.int qe b))
    (T : IMap P t k e qk qe) (hk : L[i]? = some (.oth g ob)) (hnew : Mine w0 g) (hm : MapII P k e qk qe ob n f) (hn : n < maxLen) (ha : (Lit.int qk a).wf = true) (hb : (Lit.int qe b).wf = true)
    (h : ∀ ob', MapII P k e qk qe ob' (if (f a).isSome then n else n + 1) (fun v => if v = a then some b else f v) → TL P N ops Q l E (Pm w0 (L.set i (.oth g ob')))) : TL P N ops Q (o :: l) E (Pm w0 L) := fun ac w hac hw =>
  wpList_plain hg fun K hK => by
    obtain ⟨ob', w', hrun, hob, hm', hgr⟩ := hm.put T hn (hw.at_ hk).1 ha hb
    have hex : (execOp ac.eval o).run P w = .ok .skip w' := by
      unfold execOp; rw [ho]
      simp only [hac.eval hx, hac.eval hy, hac.eval hz, Sem.run_bind, hrun, Result.andThen_ok, Sem.run_pure]
    unfold Oper.wp
    rw [hex]
    show K (ac.put o.dst undef) _
    rw [hd]
    exact hK _ _ (h ob' hm' _ _ (hac.put0 _) (hw.turnO hk hnew hgr hob))
def wbut (w : World) (g : Nat) : World := { w with heap := w.heap.setIfInBounds g (.cells #[] 0) }
theorem but_other {w : World} {g k : Nat} (h : k ≠ g) : (wbut w g).heap[k]? = w.heap[k]? := by
  show (w.heap.setIfInBounds g _)[k]? = _
  rw [Array.getElem?_setIfInBounds_ne (fun e => h e.symm)]
theorem but_size (w : World) (g : Nat) : (wbut w g).heap.size = w.heap.size := by simp [wbut]
theorem Pm.mapStart {w : World} {g : Nat} {ob : Obj} (hb : w.heap[g]? = some ob) : Pm ⟨wbut w g, g⟩ (.oth g ob :: oths g w) w := by
  have hlt := (Array.getElem?_eq_some_iff.1 hb).1
  refine ⟨⟨rfl, rfl, rfl, Nat.le_of_eq (but_size w g), fun k hk => (but_other (Nat.ne_of_lt hk)).symm⟩, fun q hq => ?_, List.Pairwise.cons (fun q hq x hx he => ?_) (oths_apart g w), ⟨Nat.le_of_eq (but_size w g), fun k o hk ho => ?_⟩, by rw [but_size]; exact Nat.le_of_lt hlt⟩
  · rcases List.mem_cons.1 hq with rfl | hq
    · exact ⟨hb, Nat.le_refl _⟩
    · obtain ⟨k, o, rfl, h1, h2⟩ := oths_ok hq
      exact ⟨h2, Nat.le_of_lt h1⟩
  · obtain ⟨k, o, rfl, h1, h2⟩ := oths_ok hq
    simp only [Pc.key, Option.some.injEq] at hx he
    omega
  · by_cases e : k = g
    · subst e
      have : (wbut w k).heap[k]? = some (.cells #[] 0) := by show (w.heap.setIfInBounds k _)[k]? = _; simp [hlt]
      rw [this] at hk
      cases hk
      cases ho
    · rw [← but_other e]; exact hk
theorem mine_but {w : World} {g b : Nat} : Mine ⟨wbut w g, b⟩ g := fun o ho => by
  have hlt : g < w.heap.size := by have := (Array.getElem?_eq_some_iff.1 ho).1; rwa [but_size] at this
  have : (wbut w g).heap[g]? = some (.cells #[] 0) := by show (w.heap.setIfInBounds g _)[g]? = _; simp [hlt]
  rw [this] at ho
  cases ho
  rfl
theorem Pm.mapEnd {w w1 : World} {g : Nat} {L : List Pc} (h : Pm ⟨wbut w g, g⟩ L w1) (hs : ∀ q ∈ oths g w, q ∈ L) : w.grownBy w1 (some g) := by
  refine ⟨h.bel.os, h.bel.tape, h.bel.output, by have := h.bel.size; rwa [but_size] at this, fun k hk hne => ?_⟩
  rcases Nat.lt_trichotomy k g with h1 | h1 | h1
  · exact (h.bel.block k h1).trans (but_other (Nat.ne_of_lt h1))
  · exact absurd (by rw [h1]) hne
  · obtain ⟨o, ho, hm⟩ := oths_mem h1 hk
    exact ((h.own _ (hs _ hm)).1).trans ho.symm
theorem TL.pcallObj {α : Type} {d k g : Nat} {ob : Obj} {f : FuncId} {fn : Func} {xs : List Operand} {ts : Array TypeId} {vs : List Value} (r : α → Value) (M : α → Obj → Prop) (hg : o.guard = none) (hd : o.dst = some d) (hN : Nat.blt d N.n = true)
    (ho : o.op = .call { callee := .value (.func f), args := xs.toArray, argTypes := ts }) (hx : evs E xs = some vs) (hf : P.funcs[f]? = some fn) (hn : (fn.name == "runtime.NumGoroutine") = false) (hb : fn.body.isNone = false)
    (hk : L[k]? = some (.oth g ob)) (hnew : Mine w0 g) (hc : ∀ w, Pm w0 L w → w.heap[g]? = some ob → Calls P f vs.toArray w fun en w' => ∃ x ob', en = .returned (r x) ∧ M x ob' ∧ w'.heap[g]? = some ob' ∧ w.grownBy w' (some g))
    (h : ∀ x ob', M x ob' → TL P N ops Q l ((d, r x) :: E) (Pm w0 (L.set k (.oth g ob')))) : TL P N ops Q (o :: l) E (Pm w0 L) :=
  TL.call (α := {y : α × Obj // M y.1 y.2}) (r := fun y => r y.1.1) (I' := fun y => Pm w0 (L.set k (.oth g y.1.2))) hg hd hN ho hx hf hn hb (fun w hw => (hc w hw (hw.at_ hk).1).mono fun en w' ⟨x, ob', he, hM, hb', hgr⟩ => ⟨⟨(x, ob'), hM⟩, he, hw.turnO hk hnew hgr hb'⟩) (fun y => h y.1.1 y.1.2 y.2)
end
end Go.Proofs.Ytleckflmckbheaa

namespace Go.Proofs.Ytleckflmckbheaa
open Go.RowKit
def Fc.cells (f : Fc) : List Value := [.int .i64 f.id, .int .u32 f.a, .int .u32 f.b]
def Fc.Ok (f : Fc) : Prop := 0 ≤ f.a ∧ f.a ≤ 4294967295 ∧ 0 ≤ f.b ∧ f.b ≤ 4294967295
def Fc.zero : Fc := ⟨0, 0, 0⟩
def fcs (l : List Fc) : List Value := l.flatMap Fc.cells
theorem fc_cells_len (f : Fc) : f.cells.length = 3 := rfl
theorem fcs_len (l : List Fc) : (fcs l).length = l.length * 3 := by
  induction l with
  | nil => rfl
  | cons f l ih => simp only [fcs, List.flatMap_cons, List.length_append] at ih ⊢; rw [ih]; simp only [Fc.cells, List.length_cons, List.length_nil]; omega
theorem fcs_app (a b : List Fc) : fcs (a ++ b) = fcs a ++ fcs b := by simp [fcs]
theorem fcs_ix : ∀ {l : List Fc} {i : Nat} {f : Fc} (h : l[i]? = some f) (k : Nat) (hk : k < 3), (fcs l)[i * 3 + k]? = f.cells[k]?
  | [], _, _, h, _, _ => by cases h
  | x :: l, 0, f, h, k, hk => by
    obtain rfl : x = f := by simpa using h
    show (x.cells ++ fcs l)[0 * 3 + k]? = _
    rw [Nat.zero_mul, Nat.zero_add, List.getElem?_append_left (by simpa [Fc.cells] using hk)]
  | x :: l, i + 1, f, h, k, hk => by
    show (x.cells ++ fcs l)[(i + 1) * 3 + k]? = _
    rw [List.getElem?_append_right (by simp [Fc.cells]; omega), show (i + 1) * 3 + k - x.cells.length = i * 3 + k by simp [Fc.cells]; omega]
    exact fcs_ix (by simpa using h) k hk
theorem fcs_cell {l : List Fc} {i : Nat} {f : Fc} (h : l[i]? = some f) {w : World} {b o : Nat} (hc : ∀ (j : Nat) (u : Value), (fcs l)[j]? = some u → w.cell? ⟨b, o + j, none⟩ = some u) (j : Nat) (u : Value) (hu : f.cells[j]? = some u) : w.cell? ⟨b, o + i * 3 + j, none⟩ = some u := by
  have hj : j < 3 := by have := (List.getElem?_eq_some_iff.1 hu).1; simpa [Fc.cells] using this
  rw [Nat.add_assoc]
  exact hc _ u (by rw [fcs_ix h j hj]; exact hu)
theorem fcs_one (l : List Fc) : ∀ u ∈ fcs l, u.oneCell' = true := by
  intro u hu
  simp only [fcs, List.mem_flatMap] at hu
  obtain ⟨f, _, hu⟩ := hu
  simp only [Fc.cells, List.mem_cons, List.not_mem_nil, or_false] at hu
  rcases hu with rfl | rfl | rfl <;> rfl
theorem fc_one (f : Fc) : ∀ u ∈ f.cells, u.oneCell' = true := fun u hu => fcs_one [f] u (by simpa [fcs] using hu)
def validN (l : List Fc) (k : Nat) : Prop := ∀ i, i < k → ∀ f, l[i]? = some f → 0 ≤ f.id ∧ f.a ≠ f.b ∧ ∀ g, 0 < i → l[i - 1]? = some g → g.id < f.id
def validF (l : List Fc) : Prop := l.length ≤ 1024 ∧ validN l l.length
end Go.Proofs.Ytleckflmckbheaa

namespace Go.Proofs.Ytleckflmckbheaa
open Go.RowKit
section
variable {P : Program} {ops : Array Oper} {S : World → Prop} {Q : Exit → Act → World → Prop}
def StillC (P : Program) (ops : Array Oper) (S : World → Prop) (o : Oper) (v : Value) (a : Act) : Prop :=
  Region.wanted o (yielded ops a.tmps) = true ∧ ∀ w, S w → ∃ f args, (execOp a.eval o).run P w = .ok (.enter f args) w ∧ Calls P f args w fun e w' => e = .returned v ∧ w' = w
theorem StillC.go {i : Nat} {o : Oper} {v : Value} {a : Act} {K : Act → World → Prop} {w : World} (h : StillC P ops S o v a) (hi : ops[i]? = some o) (hS : S w) (hK : K (a.put o.dst v) w) : wpOp P ops Q i K a w := by
  obtain ⟨h1, h2⟩ := h
  obtain ⟨f, args, he, hc⟩ := h2 w hS
  unfold wpOp
  rw [hi]
  simp only [h1, if_true]
  left
  unfold Oper.wp
  rw [he]
  simp only [Oper.upon]
  refine hc.mono ?_
  rintro e w' ⟨rfl, rfl⟩
  exact hK
theorem StillC.like {o : Oper} {v : Value} {a b : Act} (h : StillC P ops S o v a) (he : execOp b.eval o = execOp a.eval o) (hw : Region.wanted o (yielded ops b.tmps) = Region.wanted o (yielded ops a.tmps)) : StillC P ops S o v b :=
  ⟨hw.trans h.1, fun w hS => by rw [he]; exact h.2 w hS⟩
theorem StillC.across {j : Nat} {o oj : Oper} {v : Value} {a : Act} {K : Act → World → Prop} {w : World} (hy : StillC P ops S o v a) (hj : ops[j]? = some oj) (hap : o.apart ops oj = true) (hs : ∀ cs b, o.op ≠ .select cs b) (hsj : ∀ cs b, oj.op ≠ .select cs b)
    (h : wpOp P ops (NoPanic Q) j K (a.put o.dst v) w) : wpOp P ops (NoPanic Q) j (fun b w' => StillC P ops S o v b ∧ K (b.put o.dst v) w') a w := by
  obtain ⟨p1, p2, p3⟩ := Oper.apart_spec hap
  have stay : ∀ (b : Act) (u : Value), StillC P ops S o v b → StillC P ops S o v (b.put oj.dst u) := fun b u hb => hb.like (execOp_put o hs b oj.dst u p3) (wanted_put o b oj.dst u p3)
  have swap : ∀ (b : Act) (u : Value), (b.put oj.dst u).put o.dst v = (b.put o.dst v).put oj.dst u := fun b u => (Act.put_comm b v u p2).symm
  unfold wpOp at h ⊢
  rw [hj] at h ⊢
  dsimp only at h ⊢
  rw [wanted_put oj a o.dst v p1] at h
  by_cases hw : Region.wanted oj (yielded ops a.tmps) = true
  · rw [if_pos hw] at h ⊢
    rcases h with h | ⟨k1, k2⟩
    · left
      unfold Oper.wp at h ⊢
      rw [execOp_put oj hsj a o.dst v p1] at h
      cases hr : (execOp a.eval oj).run P w with
      | halt x w' =>
        rw [hr] at h
        cases x <;> simp only [Oper.upon] at h ⊢
        case panic u => exact h
      | ok n w' =>
        rw [hr] at h
        cases n <;> simp only [Oper.upon] at h ⊢
        case value u => exact ⟨stay a u hy, by rw [swap]; exact h⟩
        case skip => exact ⟨stay a _ hy, by rw [swap]; exact h⟩
        case defer d =>
          refine ⟨stay _ _ (hy.like (b := { a with defers := d :: a.defers }) rfl rfl), ?_⟩
          rw [swap, ← Act.put_defers]
          exact h
        case enter f args =>
          refine Calls.mono h fun e w2 he => ?_
          cases e with
          | returned u => exact ⟨stay a u hy, by rw [swap]; exact he⟩
          | panicked c => exact he
          | outgrown => exact he
        case row r args => exact Rows.mono h fun u w2 he => ⟨stay a u hy, by rw [swap]; exact he⟩
    · right
      refine ⟨?_, k2⟩
      unfold Oper.asks at k1 ⊢
      rw [execOp_put oj hsj a o.dst v p1] at k1
      exact k1
  · rw [if_neg hw] at h ⊢
    exact ⟨stay a _ hy, by rw [swap]; exact h⟩
theorem held_call {i : Nat} {o : Oper} {v : Value} (hi : ops[i]? = some o) (hsel : ∀ (j : Nat) (o : Oper) cs b, ops[j]? = some o → o.op ≠ .select cs b) : ∀ (f : Nat) (listed : Array Bool) (a : Act) (w : World),
    (∀ j oj, ops[j]? = some oj → j ≠ i → listed.getD j true = false → (∀ e ∈ oj.after, Region.binds .any e = true → e.on ≠ i) → o.apart ops oj = true) → i ∈ Region.ready .any ops listed → StillC P ops S o v a → S w →
    wpAnyH P .any ops (NoPanic Q) S f (listed.setIfInBounds i true) (a.put o.dst v) w → wpAnyH P .any ops (NoPanic Q) S (f + 1) listed a w := by
  intro f
  induction f with
  | zero =>
    intro listed a w _ hr hy hS H
    refine ⟨fun h0 => (by rw [h0] at hr; cases hr), fun j hj => ?_⟩
    rcases Decidable.em (j = i) with e | e
    · exact e ▸ hy.go hi hS ⟨hS, H⟩
    · have h1 := ready_mono hj e
      rw [H.1] at h1
      cases h1
  | succ f ih =>
    intro listed a w hfree hr hy hS H
    refine ⟨fun h0 => (by rw [h0] at hr; cases hr), fun j hj => ?_⟩
    rcases Decidable.em (j = i) with e | e
    · exact e ▸ hy.go hi hS ⟨hS, H⟩
    · obtain ⟨hun, oj, hoj, hall⟩ := mem_ready.1 hj
      have hno : ∀ e ∈ oj.after, Region.binds .any e = true → e.on ≠ i := by
        intro e he hb hon
        have h1 := hall e he hb
        have h0 := (mem_ready.1 hr).1
        rw [hon] at h1
        rcases Nat.lt_or_ge i listed.size with hlt | hge
        · simp [hlt] at h0 h1
          rw [h0] at h1
          cases h1
        · simp [Array.getElem?_eq_none hge] at h1
      have h2 := hy.across hoj (hfree j oj hoj e hun hno) (fun cs b => hsel i o cs b hi) (fun cs b => hsel j oj cs b hoj) (H.2 j (ready_mono hj e))
      refine wpOp_mono (fun b w' h3 => ⟨h3.2.1, ih _ b w' (fun k ok hk hki hkl hkn => hfree k ok hk hki ?_ hkn) (ready_mono hr (Ne.symm e)) h3.1 h3.2.1 ?_⟩) h2
      · rcases Decidable.em (j = k) with e2 | e2
        · exact e2 ▸ hun
        · rwa [getD_set_ne true e2] at hkl
      · rw [Array.setIfInBounds_comm _ _ e]
        exact h3.2.2
end
section
variable {P : Program} {N : Fr} {Q : Exit → Act → World → Prop} {E : Env} {I S : World → Prop} {ops : Array Oper} {f : Nat} {listed : Array Bool}
theorem TH.takeC {o : Oper} {d : Nat} {r : Value} {g : FuncId} {fn : Func} {xs : List Operand} {ts : Array TypeId} {vs : List Value} {listed' : Array Bool} (i : Nat) (hi : ops[i]? = some o) (hs : Region.noSelect ops = true) (hf : Region.free .any ops listed i = true) (hr : (Region.ready .any ops listed).contains i = true) (hl : listed.setIfInBounds i true = listed')
    (hg : o.guard = none) (hd : o.dst = some d) (hN : Nat.blt d N.n = true) (ho : o.op = .call { callee := .value (.func g), args := xs.toArray, argTypes := ts }) (hx : evs E xs = some vs) (hfn : P.funcs[g]? = some fn) (hn : (fn.name == "runtime.NumGoroutine") = false) (hb : fn.body.isNone = false)
    (hc : ∀ w, S w → Calls P g vs.toArray w fun e w' => e = .returned r ∧ w' = w) (hS : ∀ w, I w → S w)
    (h : TH P N ops S Q f listed' ((d, r) :: E) I) : TH P N ops S Q (f + 1) listed E I := fun a w ha hw => by
  subst hl
  refine held_call hi (Region.noSelect_spec hs) f listed a w (Region.free_spec hi hf) (by simpa using hr) (v := r) ⟨by simp [Region.wanted, hg], fun w' hw' => ⟨g, vs.toArray, enters ha ho hx hfn hn hb, hc w' hw'⟩⟩ (hS w hw) ?_
  exact h (a.put o.dst r) w (hd ▸ ha.put d r (by simpa [Nat.blt_eq] using hN)) hw
/-! operations with a guard -/
theorem op_of_list' {o : Oper} {i : Nat} {K : Act → World → Prop} {a : Act} {w : World} (hi : ops[i]? = some o) (h : wpList P ops (Exit.then K (NoPanic Q)) [o] a w) : wpOp P ops (NoPanic Q) i K a w := by
  unfold wpOp
  rw [hi]
  unfold wpList at h
  dsimp only
  by_cases hw : Region.wanted o (yielded ops a.tmps) = true
  · simp only [hw, if_true] at h ⊢
    rcases h with h | ⟨h1, h2⟩
    · left
      unfold Oper.wp at h ⊢
      generalize (execOp a.eval o).run P w = r at *
      cases r with
      | ok n w' => cases n <;> exact h
      | halt x w' => cases x <;> exact h
    · exact .inr ⟨h1, h2⟩
  · rw [if_neg hw] at h ⊢
    exact h
theorem TH.only' {o : Oper} {listed' : Array Bool} (i : Nat) (hi : ops[i]? = some o) (hr : Region.ready .any ops listed = [i]) (hl : listed.setIfInBounds i true = listed')
    (h : TL P N ops (Exit.then (Hd P ops S Q f listed') (NoPanic Q)) [o] E I) : TH P N ops S Q (f + 1) listed E I := fun a w ha hw => by
  subst hl
  refine wpAnyH_all hr (by simp) fun j hj => ?_
  have : j = i := by simpa using hj
  subst this
  exact op_of_list' hi (h a w ha hw)
theorem TH.two' {o o' : Oper} {listed1 listed2 : Array Bool} (i j : Nat) (hi : ops[i]? = some o) (hj : ops[j]? = some o') (hr : Region.ready .any ops listed = [i, j]) (hl1 : listed.setIfInBounds i true = listed1) (hl2 : listed.setIfInBounds j true = listed2)
    (h : TL P N ops (Exit.then (Hd P ops S Q f listed1) (NoPanic Q)) [o] E I) (h' : TL P N ops (Exit.then (Hd P ops S Q f listed2) (NoPanic Q)) [o'] E I) : TH P N ops S Q (f + 1) listed E I := fun a w ha hw => by
  subst hl1 hl2
  refine wpAnyH_all hr (by simp) fun k hk => ?_
  have : k = i ∨ k = j := by simpa using hk
  rcases this with rfl | rfl
  · exact op_of_list' hi (h a w ha hw)
  · exact op_of_list' hj (h' a w ha hw)
theorem TH.takeG {o : Oper} {d j dg : Nat} {b : Bool} {v : Value} {listed' : Array Bool} (i : Nat) (hi : ops[i]? = some o) (hs : Region.noSelect ops = true) (hf : Region.free .any ops listed i = true) (hr : (Region.ready .any ops listed).contains i = true) (hl : listed.setIfInBounds i true = listed')
    (hg : o.guard = some (j, b)) (hgd : (ops[j]?).bind (·.dst) = some dg) (hgE : look E dg = some (.bool b)) (hd : o.dst = some d) (hN : Nat.blt d N.n = true) (hv : Gives P N o E S v) (hS : ∀ w, I w → S w)
    (h : TH P N ops S Q f listed' ((d, v) :: E) I) : TH P N ops S Q (f + 1) listed E I := fun a w ha hw => by
  subst hl
  refine wpAnyH_take hi hs hf hr (fun c a w h => h) (v := v) (.inl ⟨by rw [wanted_of ha hg hgd hgE]; simp, fun w' hw' => hv a w' ha hw'⟩) (hS w hw) ?_
  exact h (a.put o.dst v) w (hd ▸ ha.put d v (by simpa [Nat.blt_eq] using hN)) hw
theorem TH.off {o : Oper} {d j dg : Nat} {b b' : Bool} {listed' : Array Bool} (i : Nat) (hi : ops[i]? = some o) (hs : Region.noSelect ops = true) (hf : Region.free .any ops listed i = true) (hr : (Region.ready .any ops listed).contains i = true) (hl : listed.setIfInBounds i true = listed')
    (hg : o.guard = some (j, b')) (hgd : (ops[j]?).bind (·.dst) = some dg) (hgE : look E dg = some (.bool b)) (hne : (b == b') = false) (hd : o.dst = some d) (hN : Nat.blt d N.n = true) (hS : ∀ w, I w → S w)
    (h : TH P N ops S Q f listed' ((d, undef) :: E) I) : TH P N ops S Q (f + 1) listed E I := fun a w ha hw => by
  subst hl
  refine wpAnyH_take hi hs hf hr (fun c a w h => h) (v := undef) (.inr ⟨by rw [wanted_of ha hg hgd hgE, hne], rfl⟩) (hS w hw) ?_
  exact h (a.put o.dst undef) w (hd ▸ ha.put d undef (by simpa [Nat.blt_eq] using hN)) hw
theorem TH.offU {o : Oper} {d j dg : Nat} {b' : Bool} {listed' : Array Bool} (i : Nat) (hi : ops[i]? = some o) (hs : Region.noSelect ops = true) (hf : Region.free .any ops listed i = true) (hr : (Region.ready .any ops listed).contains i = true) (hl : listed.setIfInBounds i true = listed')
    (hg : o.guard = some (j, b')) (hgd : (ops[j]?).bind (·.dst) = some dg) (hgE : look E dg = some undef) (hd : o.dst = some d) (hN : Nat.blt d N.n = true) (hS : ∀ w, I w → S w)
    (h : TH P N ops S Q f listed' ((d, undef) :: E) I) : TH P N ops S Q (f + 1) listed E I := fun a w ha hw => by
  subst hl
  have h1 : yielded ops a.tmps j = none := by
    have := ha.slot dg _ hgE
    simp [yielded, hgd, this, undef]
  have hw1 : Region.wanted o (yielded ops a.tmps) = false := by
    unfold Region.wanted
    rw [hg]
    simp [h1]
  refine wpAnyH_take hi hs hf hr (fun c a w h => h) (v := undef) (.inr ⟨hw1, rfl⟩) (hS w hw) ?_
  exact h (a.put o.dst undef) w (hd ▸ ha.put d undef (by simpa [Nat.blt_eq] using hN)) hw
end
end Go.Proofs.Ytleckflmckbheaa
