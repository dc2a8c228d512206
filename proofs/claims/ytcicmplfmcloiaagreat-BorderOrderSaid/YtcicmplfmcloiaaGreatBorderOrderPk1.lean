/-
  Texts of the proof, joined: Base, Sym, SymMem, SymPc, SymOps, SymTx, SymBin, SymHeld, SymZeros, SymStr, SymRow, SymRange, SymCod, SymChg, SymPair, SymTop, SymCall, SortLaw, SymEl, SymMap, SymSrt, SymClr, SymFn, SymSeg, SymMax, SymFlat, SymAgg, SymPre, SymNil, WireLaw, JrLaw, JrCk0, SymDn, SymRwG, SymSo, SymCpt, SymOrd, SymMapV, SymScp, SymMapR.
-/
import Derived.WalkKit
import Derived.ProofKit
import Derived.OpenShut
import Derived.ShutString
import Derived.ChangeOld
import Derived.Below
import Derived.Laws.OwnMore
import Derived.Deep.AppendLies
import Derived.Deep.Draws
import Derived.Laws.Rows
import Derived.Maps.AppendAt
import Derived.RegionTactic
import Derived.OwnWalk
import Derived.Deep.QuietTactic
import Derived.BigQuiet
import Derived.Lib.Hide
import Derived.IntWalk
import Derived.Outline
import Derived.WalkSpells
import Derived.Deep.RegionWith
import Derived.Deep.RegionHeld3
import Derived.WalkLawsBesides
import Derived.Deep.Quiet
import Derived.StillTail
import Derived.Laws.CopyRow
import Derived.Deep.LoopGhost
import Derived.Laws.CopyOwn
import Derived.RangeFuncOwn
import Derived.OrdersHeld
import Derived.Laws.BytesArg
import Derived.Laws.Strings2
import Derived.Laws.IdiomStrings
import Derived.RangeFuncLeaves
import Derived.RangeFuncKeeps
import Derived.RangeFuncBound
import Derived.RangeFuncNested
import Derived.RangeFuncCalls
import Derived.Laws.Externs
import Derived.Laws.BytesString
import Derived.Maps.Own
import Derived.Maps.OwnSet
import Derived.Maps.Views
import Derived.BigFrame
import Derived.Laws.Small
import GoSem.Step
import Derived.Calls
import Derived.Shelf.SlSortCmp.NoneTotal
import Derived.Scope
import Derived.Maps.RangeRun
set_option linter.unusedVariables false
set_option linter.unusedSimpArgs false
namespace Go.Proofs.YtcicmplfmcloiaaGreat
open Go.RowKit
theorem Keb (a : Addr) (n : Nat) : (a.add n).block = a.block := by unfold Addr.add; split <;> rfl
theorem Kia (a : Addr) (i j : Nat) : (a.add i).add j = a.add (i + j) := by
  unfold Addr.add;by_cases hi : i = 0 <;> by_cases hj : j = 0 <;> simp [hi, hj, Nat.add_assoc]
def Kd (w : World) (B size : Nat) (A : Option Addr) (n : Nat) (xs : List Value) : Prop :=
  xs.length = n * size /\ (0 < n -> ∃ ad, A = some ad /\ ad.block < B /\ ∀ j u, xs[j]? = some u -> w.cell? (ad.add j) = some u)
section
variable {w w' : World} {B B' size n : Nat} {A : Option Addr} {xs : List Value}
theorem Kd.none_ : Kd w B size A 0 [] := ⟨by simp, fun h => absurd h (by omega)⟩
theorem Kd.at_ {k : Nat} (h : Kd w B 1 A n xs) (hk : k < n) : ∃ ad u, A = some ad /\ ad.block < B /\ xs[k]? = some u /\ w.cell? (ad.add k) = some u := by
  obtain ⟨ad, e, hb, hc⟩ := h.2 (by omega);have hl : k < xs.length := by have := h.1; omega
  exact ⟨ad, xs[k], e, hb, List.getElem?_eq_getElem hl, hc k _ (List.getElem?_eq_getElem hl)⟩
theorem Kd.keep (h : Kd w B size A n xs) (hk : ∀ p : Addr, p.block < B -> w'.cell? p = w.cell? p) : Kd w' B size A n xs :=
  ⟨h.1, fun hn => by
    obtain ⟨ad, e, hb, hc⟩ := h.2 hn;exact ⟨ad, e, hb, fun j u hu => (hk _ (by rw [Keb]; exact hb)).trans (hc j u hu)⟩⟩
theorem Kd.more (h : Kd w B size A n xs) (hB : B <= B') : Kd w B' size A n xs :=
  ⟨h.1, fun hn => by
    obtain ⟨ad, e, hb, hc⟩ := h.2 hn;exact ⟨ad, e, by omega, hc⟩⟩
theorem Kd.below (h : Kd w B size A n xs) (hb : Below B w w') : Kd w' B size A n xs := h.keep fun _ hp => hb.cell hp
theorem Kd.drew (h : Kd w B size A n xs) : Kd w.drew B size A n xs := h
theorem Kd.drewN (h : Kd w B size A n xs) (k : Nat) : Kd (w.drewN k) B size A n xs := h
theorem Kd.alloc (h : Kd w B size A n xs) (hB : B <= w.heap.size) (o : Obj) : Kd (w.alloc o) B size A n xs := h.keep fun p hp => World.cell?_alloc_lt w o p (by omega)
theorem Kd.setCell (h : Kd w B size A n xs) {p : Addr} (hB : B <= p.block) (u : Value) : Kd (w.setCell p u) B size A n xs :=
  h.keep fun q hq => World.cell?_setCell_other w p q u (fun e => by subst e; omega)
theorem Kd.grown (h : Kd w B size A n xs) {row : Option Nat} (hg : w.grownBy w' row) (hB : B <= w.heap.size) (hr : ∀ g, row = some g -> B <= g) : Kd w' B size A n xs :=
  h.keep fun p hp => World.cell?_of_block (hg.block p.block (by omega) (fun e => by have := hr _ e.symm; omega))
theorem Kd.cut (h : Kd w B size A n xs) {k cap : Nat} (hk : k <= n) (hc : n <= cap) :
    Kd w B size (if cap = k then A else A.map (·.add (k * size))) (n - k) (xs.drop (k * size)) := by
  refine ⟨by rw [List.length_drop, h.1, Nat.sub_mul], fun hn => ?_⟩;obtain ⟨ad, rfl, hb, hcell⟩ := h.2 (by omega);rw [if_neg (by omega)];refine ⟨ad.add (k * size), rfl, by rw [Keb]; exact hb, fun j u hu => ?_⟩;rw [Kia];exact hcell _ u (by rw [<- hu, List.getElem?_drop])
theorem Kd.of_own {base : Nat} {e : TypeId} {c : Nat} (h : w.ownsRow base e size (.slice A n c) n xs) : Kd w w.heap.size size A n xs := by
  refine ⟨h.1, fun hn => ?_⟩;obtain ⟨g, cap, hv, _, hlt⟩ := h.form hn;have hA : A = some ⟨g, 0, none⟩ := by injection hv
  subst hA;exact ⟨_, rfl, hlt, h.cells (g := g) rfl⟩
end
def Blk (w : World) (g : Nat) (t : TypeId) (cs : Array Value) : Prop := w.heap[g]? = some (.cells cs t (0, 0))
section
variable {w w' : World} {g : Nat} {t : TypeId} {cs : Array Value}
theorem Blk.lt (h : Blk w g t cs) : g < w.heap.size := by
  rcases Nat.lt_or_ge g w.heap.size with hlt | hge
  · exact hlt
  · unfold Blk at h; rw [Array.getElem?_eq_none hge] at h; cases h
theorem Blk.cell (h : Blk w g t cs) (i : Nat) : w.cell? ⟨g, i, none⟩ = cs[i]? := cell_of_row w g i cs t (0, 0) h
theorem Blk.frozen (h : Blk w g t cs) (i : Nat) : w.frozen? ⟨g, i, none⟩ = false := by
  unfold Blk at h;simp [World.frozen?, h]
theorem Blk.new (w : World) (t : TypeId) (cs : Array Value) : Blk (w.alloc (.cells cs t)) w.heap.size t cs := heap_alloc_new w _
theorem Blk.drew (h : Blk w g t cs) : Blk w.drew g t cs := h
theorem Blk.drewN (h : Blk w g t cs) (n : Nat) : Blk (w.drewN n) g t cs := h
theorem Blk.alloc (h : Blk w g t cs) (o : Obj) : Blk (w.alloc o) g t cs := (Below.heap_alloc w o g h.lt).trans h
theorem Blk.set_ (h : Blk w g t cs) (i : Nat) (u : Value) : Blk (w.setCell ⟨g, i, none⟩ u) g t (cs.setIfInBounds i u) := by
  unfold Blk at h ⊢;simp [World.setCell, Array.getElem?_modify, h]
theorem Blk.far (h : Blk w g t cs) {p : Addr} (hp : g ≠ p.block) (u : Value) : Blk (w.setCell p u) g t cs := (Below.heap_setCell w p u g hp).trans h
theorem Blk.below {B : Nat} (h : Blk w g t cs) (hb : Below B w w') (hg : g < B) : Blk w' g t cs := (hb.block g hg).trans h
theorem Blk.grown {row : Option Nat} (h : Blk w g t cs) (hb : w.grownBy w' row) (hg : some g ≠ row) : Blk w' g t cs := (hb.block g h.lt hg).trans h
end
section
variable {P : Program} (w : World)
theorem Kjp (base : Nat) (t ty e : TypeId) (i : TypeInfo) (size : Nat) (ht : P.underlying t = some (.slice e)) (hi : P.info? e = some i)
    (v : Value) (n : Nat) (xs : List Value) (hown : w.ownsRow base e size v n xs) (c : Nat) : (Builtin.append_ #[t, t] ty #[v, .slice none 0 c]).run P w = .ok v w := by
  rcases hown.2 with ⟨rfl, rfl⟩ | ⟨g, cap, cur, rfl, _, _, hnc, _⟩
  · simp [Builtin.append_, run_underlying ht, sizeOf, typeInfo, hi, Builtin.lenOf, Builtin.firstCells]
  · simp [Builtin.append_, run_underlying ht, sizeOf, typeInfo, hi, Builtin.lenOf, Builtin.firstCells, hnc, storeCells]
theorem Kfi (base : Nat) (t ty e : TypeId) (i : TypeInfo) (z : Value) (size bytes : Nat) (ht : P.underlying t = some (.slice e)) (hi : P.info? e = some i) (hz : i.zero = some z)
    (hsize : i.size = size) (hby : i.bytes = bytes) (hzs : z.cells.size = size) (hsz : 0 < size)
    (v : Value) (n : Nat) (xs : List Value) (hown : w.ownsRow base e size v n xs)
    (B : Nat) (A : Option Addr) (m c : Nat) (news : List Value) (hr : Kd w B size A m news) (h1 : ∀ u ∈ news, u.oneCell' = true)
    (h63 : n + m <= maxLen) (hbytes : (n + m) * bytes <= 140737488355328) (hbase : base <= w.heap.size) :
    ∃ v' w', (Builtin.append_ #[t, t] ty #[v, .slice A m c]).run P w = .ok v' w' /\ w'.ownsRow base e size v' (n + m) (xs ++ news) /\ w.grownBy w' v.ownBlock /\
      (v'.ownBlock = v.ownBlock \/ v'.ownBlock = some w.heap.size) := by
  rcases A with _ | ad
  · have hm : m = 0 := by
      rcases Nat.eq_zero_or_pos m with h0 | h0
      · exact h0
      · obtain ⟨ad, h, _⟩ := hr.2 h0;cases h
    subst hm;have hn : news = [] := List.eq_nil_of_length_eq_zero (by simpa using hr.1);subst hn;exact ⟨v, w, Kjp w base t ty e i size ht hi v n xs hown c, by simpa using hown, World.grownBy.refl w _, .inl rfl⟩
  · have hcells : ∀ j u, news[j]? = some u -> w.cell? (ad.add j) = some u := by
      intro j u hu;rcases Nat.eq_zero_or_pos m with h0 | h0
      · subst h0;have hn : news = [] := List.eq_nil_of_length_eq_zero (by simpa using hr.1);subst hn;simp at hu
      · obtain ⟨ad', h, _, hc⟩ := hr.2 h0
        injection h with h
        subst h;exact hc j u hu
    obtain ⟨v', w', hrun, h2, h3, _, h5⟩ := run_append_own_at (P := P) w base t ty e i z size bytes ht hi hz hsize hby hzs hsz v n xs hown ad m c news hr.1 hcells h1 h63 hbytes hbase;exact ⟨v', w', hrun, h2, h3, h5⟩
end
structure Elem (P : Program) (t e : TypeId) (size bytes : Nat) : Prop where
  und : P.underlying t = some (.slice e)
  info : ∃ i z, P.info? e = some i /\ i.zero = some z /\ i.size = size /\ i.bytes = bytes /\ z.cells.size = size
  pos : 0 < size
  big : 0 < bytes
theorem Elem.mk' {P : Program} {t e : TypeId} {size bytes : Nat} {z : Value} (hu : P.underlying t = some (.slice e)) (h : (P.info? e).map (fun i => (i.zero, i.size, i.bytes)) = some (some z, size, bytes)) (hz : z.cells.size = size) (h0 : 0 < size) (h1 : 0 < bytes) : Elem P t e size bytes := by
  obtain ⟨i, hi, a, b, c⟩ := info_parts h;exact ⟨hu, ⟨i, z, hi, a, b, c, hz⟩, h0, h1⟩
theorem KdZ {w : World} {base : Nat} {e : TypeId} {size n : Nat} {v : Value} {xs : List Value} (h : w.ownsRow base e size v n xs) : ∃ A c, v = .slice A n c /\ n <= c /\ c <= maxLen := by
  rcases h.2 with ⟨rfl, rfl⟩ | ⟨g, cap, cur, rfl, _, _, h1, h2, _⟩
  · exact ⟨none, 0, rfl, Nat.le_refl _, Nat.zero_le _⟩
  · exact ⟨_, cap, rfl, h1, h2⟩
theorem Kfl {w : World} {base base' : Nat} {e : TypeId} {size n : Nat} {v : Value} {xs : List Value} (h : w.ownsRow base e size v n xs) (hb : base' <= base) : w.ownsRow base' e size v n xs := by
  refine ⟨h.1, ?_⟩;rcases h.2 with h | ⟨g, cap, cur, a, b, r⟩
  · exact .inl h
  · exact .inr ⟨g, cap, cur, a, Nat.le_trans hb b, r⟩
def bv (l : List Int) : List Value := l.map (Value.int .u8)
def Bs (l : List Int) : Prop := ∀ x ∈ l, 0 <= x /\ x <= 255
theorem Bs.nil : Bs [] := by intro x hx; cases hx
theorem Bs.take {l : List Int} (h : Bs l) (n : Nat) : Bs (l.take n) := fun x hx => h x (List.mem_of_mem_take hx)
theorem Bs.drop {l : List Int} (h : Bs l) (n : Nat) : Bs (l.drop n) := fun x hx => h x (List.mem_of_mem_drop hx)
theorem KlJ (a : List Int) : (bv a).length = a.length := by simp [bv]
def Byt (w : World) (B : Nat) (A : Option Addr) (n : Nat) (l : List Int) : Prop := Kd w B 1 A n (bv l) /\ Bs l
section
variable {w w' : World} {B B' n : Nat} {A : Option Addr} {l : List Int}
theorem Byt.len (h : Byt w B A n l) : l.length = n := by have := h.1.1; rw [KlJ] at this; omega
theorem Byt.at_ {k : Nat} (h : Byt w B A n l) (hk : k < n) : ∃ ad x, A = some ad /\ ad.block < B /\ l[k]? = some x /\ 0 <= x /\ x <= 255 /\ w.cell? (ad.add k) = some (.int .u8 x) := by
  obtain ⟨ad, u, hA, hb, hx, hc⟩ := h.1.at_ hk;have hl : k < l.length := by have := h.len; omega
  refine ⟨ad, l[k], hA, hb, List.getElem?_eq_getElem hl, (h.2 _ (List.getElem_mem hl)).1, (h.2 _ (List.getElem_mem hl)).2, ?_⟩;rw [hc];simp only [bv, List.getElem?_map, List.getElem?_eq_getElem hl, Option.map_some] at hx;rw [Option.some.inj hx]
theorem Byt.at' {k : Nat} (h : Byt w B A n l) (hk : k < n) : ∃ b o x, A = some ⟨b, o, none⟩ /\ b < B /\ l[k]? = some x /\ 0 <= x /\ x <= 255 /\ w.cell? ⟨b, o + k, none⟩ = some (.int .u8 x) := by
  obtain ⟨ad, x, hA, hb, hx, h0, h1, hc⟩ := h.at_ hk;obtain ⟨ad', x', hA', _, _, _, _, hc'⟩ := h.at_ (k := 0) (by omega);rw [hA] at hA'
  injection hA' with e
  subst e;have hs : ad.spot = none := by simpa [Addr.add] using World.cell?_spot hc'
  obtain ⟨b, o, sp⟩ := ad;simp only at hs hb;subst hs;have e : (⟨b, o, none⟩ : Addr).add k = ⟨b, o + k, none⟩ := by unfold Addr.add; split <;> simp_all
  exact ⟨b, o, x, hA, hb, hx, h0, h1, by rw [<- e]; exact hc⟩
theorem Byt.none_ (w : World) (B : Nat) : Byt w B none 0 [] := ⟨Kd.none_, Bs.nil⟩
theorem Byt.keep (h : Byt w B A n l) (hk : ∀ p : Addr, p.block < B -> w'.cell? p = w.cell? p) : Byt w' B A n l := ⟨h.1.keep hk, h.2⟩
theorem Byt.more (h : Byt w B A n l) (hB : B <= B') : Byt w B' A n l := ⟨h.1.more hB, h.2⟩
theorem Byt.below (h : Byt w B A n l) (hb : Below B w w') : Byt w' B A n l := ⟨h.1.below hb, h.2⟩
theorem Byt.alloc (h : Byt w B A n l) (hB : B <= w.heap.size) (o : Obj) : Byt (w.alloc o) B A n l := ⟨h.1.alloc hB o, h.2⟩
theorem Byt.drew (h : Byt w B A n l) : Byt w.drew B A n l := ⟨h.1.drew, h.2⟩
theorem Byt.drewN (h : Byt w B A n l) (k : Nat) : Byt (w.drewN k) B A n l := ⟨h.1.drewN k, h.2⟩
theorem Byt.cut (h : Byt w B A n l) {k cap : Nat} (hk : k <= n) (hc : n <= cap) : Byt w B (if cap = k then A else A.map (·.add k)) (n - k) (l.drop k) := by
  have := h.1.cut (cap := cap) hk hc;rw [Nat.mul_one] at this;refine ⟨?_, h.2.drop k⟩
  simpa [bv, List.map_drop] using this
theorem Byt.head (h : Byt w B A n l) {k : Nat} (hk : k <= n) : Byt w B A k (l.take k) := by
  have hl := h.len;refine ⟨⟨by simp [bv]; omega, fun hn => ?_⟩, h.2.take k⟩;obtain ⟨ad, hA, hb, hc⟩ := h.1.2 (by omega);refine ⟨ad, hA, hb, fun j u hu => hc j u ?_⟩;simp only [bv, List.getElem?_map, List.map_take, List.getElem?_take] at hu ⊢;split at hu
  · exact hu
  · cases hu
end
abbrev Env := List (Nat × Value)
def look : Env -> Nat -> Option Value
 | [], _ => none
 | (k, v) :: r, t => bif Nat.beq k t then some v else look r t
def ev (E : Env) : Operand -> Option Value
 | .tmp t => look E t
 | .const v => some v
 | .global g => some (.pointer (some ⟨g, 0, none⟩))
 | .func f => some (.func (.func f) #[] #[])
structure Fr where
 n : Nat
 ds : List Deferred
instance (k : Nat) : OfNat Fr k := ⟨⟨k, []⟩⟩
structure EnvOk (N : Fr) (E : Env) (a : Act) : Prop where
 defers : a.defers = N.ds
 size : a.tmps.size = N.n
 slot : ∀ t v, look E t = some v -> a.tmps[t]? = some v
theorem EnvOk.eval {N : Fr} {E : Env} {a : Act} (h : EnvOk N E a) {x : Operand} {v : Value} (hx : ev E x = some v) : a.eval x = v := by
 cases x with
 | tmp t =>
  have := h.slot t v hx;simp [Act.eval, this]
 | const u => simpa [ev, Act.eval] using hx
 | global g => simpa [ev, Act.eval] using hx
 | func f => simpa [ev, Act.eval] using hx
theorem EnvOk.put {N : Fr} {E : Env} {a : Act} (h : EnvOk N E a) (d : Nat) (v : Value) (hd : d < N.n) : EnvOk N ((d, v) :: E) (a.put (some d) v) := by
 refine ⟨h.defers, by simp [Act.put, h.size], fun t u hu => ?_⟩;simp only [look] at hu;by_cases e : d = t
 ·subst e;have : Nat.beq d d = true := by simp
  rw [this] at hu;simp only [cond_true, Option.some.injEq] at hu;subst hu;simp [Act.put, h.size, hd]
 ·have : Nat.beq d t = false := by
   cases hb : Nat.beq d t with
   | false => rfl
   | true => exact absurd (Nat.eq_of_beq_eq_true hb) e
  rw [this] at hu;simp only [cond_false] at hu;have := h.slot t u hu;simp [Act.put, Array.getElem?_setIfInBounds, e, this]
theorem EnvOk.put0 {N : Fr} {E : Env} {a : Act} (h : EnvOk N E a) (v : Value) : EnvOk N E (a.put none v) := h
theorem EnvOk.weak {N : Fr} {E E' : Env} {a : Act} (h : EnvOk N E a) (hE : ∀ t v, look E' t = some v -> look E t = some v) : EnvOk N E' a := ⟨h.defers, h.size, fun t v hv => h.slot t v (hE t v hv)⟩
section
variable (P : Program) (N : Fr)
def TC (Q : Exit -> Act -> World -> Prop) (c : Code) (E : Env) (I : World -> Prop) : Prop := ∀ a w, EnvOk N E a -> I w -> c.wp P Q a w
def TL (ops : Array Oper) (Q : Exit -> Act -> World -> Prop) (l : List Oper) (E : Env) (I : World -> Prop) : Prop := ∀ a w, EnvOk N E a -> I w -> wpList P ops Q l a w
def TQ (ops : Array Oper) (R : Act -> Prop) (l : List Oper) (E : Env) (I : World -> Prop) : Prop := ∀ a, EnvOk N E a -> wpQuiet P ops I R l a
def Kl (o : Oper) (E : Env) (I : World -> Prop) (v : Value) : Prop := ∀ a w, EnvOk N E a -> I w -> (execOp a.eval o).run P w = .ok (.value v) w
end
section
variable {P : Program} {N : Fr} {Q : Exit -> Act -> World -> Prop} {E : Env} {I : World -> Prop}
theorem TC.seq {x y : Code} {J : Act -> World -> Prop} (h : TC P N (Exit.then J Q) x E I) (hJ : ∀ a w, J a w -> y.wp P Q a w) : TC P N Q (.seq x y) E I :=
 fun a w ha hw => wp_seq (Code.wp_mono (fun e a' w' q => by cases e <;> first | exact hJ _ _ q | exact q) (h a w ha hw))
theorem TC.skip {J : Act -> World -> Prop} (h : ∀ a w, EnvOk N E a -> I w -> J a w) : TC P N (Exit.then J Q) .skip E I := fun a w ha hw => wp_skip (h a w ha hw)
theorem TC.region {id : Nat} {l : List Oper} (h : TL P N l.toArray Q l E I) : TC P N Q (.region id l.toArray false) E I := fun a w ha hw => wp_region_lit (h a w ha hw)
theorem TC.quiet {id : Nat} {l : List Oper} {R : Act -> Prop} (hm : P.follows .mixedOrders = true) (hB : Region.lexB .any l.toArray = true) (hI : ∀ w, I w -> I { w with drawn := w.drawn + 1 })
  (h : TQ P N l.toArray R l E I) (hR : ∀ a w, R a -> I w -> Q .normal a w) : TC P N Q (.region id l.toArray true) E I := fun a w ha hw =>
 wp_region_quiet (C := I) hm hB (hI w hw) (by
  have := h a ha
  have hmono : ∀ (l' : List Oper) (a : Act), wpQuiet P l.toArray I R l' a -> wpQuiet P l.toArray I (fun a' => ∀ w', I w' -> Q .normal a' w') l' a := by
   intro l'
   induction l' with
   | nil => exact fun a hq w' hw' => hR a w' hq hw'
   | cons o r ih =>
    intro a hq;simp only [wpQuiet] at hq ⊢;split
    ·rename_i hwt; rw [if_pos hwt] at hq; exact Oper.quiet_mono (fun a' => ih a') hq
    ·rename_i hwt; rw [if_neg hwt] at hq; exact ih _ hq
  simpa using hmono l a this)
theorem TC.split {c : Operand} {x y : Code} {t : Bool} (hc : ev E c = some (.bool t)) (ht : t = true -> TC P N Q x E I) (hf : t = false -> TC P N Q y E I) : TC P N Q (.cond c x y) E I := fun a w ha hw =>
 wp_cond_split (ha.eval hc) (fun e => ht e a w ha hw) (fun e => hf e a w ha hw)
theorem TC.block {id : Nat} {c : Code} (h : TC P N (Exit.inBlock id Q) c E I) : TC P N Q (.block id c) E I := fun a w ha hw => wp_block (h a w ha hw)
theorem TC.exit {id : Nat} (h : ∀ a w, EnvOk N E a -> I w -> Q (.exit id) a w) : TC P N Q (.exit id) E I := fun a w ha hw => wp_exit (h a w ha hw)
theorem TC.ret (h : ∀ a w, EnvOk N E a -> I w -> Q .ret a w) : TC P N Q .ret E I := fun a w ha hw => wp_ret (h a w ha hw)
section
variable {ops : Array Oper} {l : List Oper} {o : Oper}
theorem TL.nil (h : ∀ a w, EnvOk N E a -> I w -> Q .normal a w) : TL P N ops Q [] E I := fun a w ha hw => h a w ha hw
theorem TL.val {d : Nat} {v : Value} (hg : o.guard = none) (hd : o.dst = some d) (hN : Nat.blt d N.n = true) (hv : Kl P N o E I v) (h : TL P N ops Q l ((d, v) :: E) I) : TL P N ops Q (o :: l) E I := fun a w ha hw =>
 wpList_plain hg fun K hK => by
  unfold Oper.wp;rw [hv a w ha hw];show K (a.put o.dst v) w;rw [hd];exact hK _ _ (h _ _ (ha.put d v (by simpa [Nat.blt_eq] using hN)) hw)
theorem TQ.nil {R : Act -> Prop} (h : ∀ a, EnvOk N E a -> R a) : TQ P N ops R [] E I := fun a ha => h a ha
theorem TQ.val {R : Act -> Prop} {d : Nat} {v : Value} (hg : o.guard = none) (hd : o.dst = some d) (hN : Nat.blt d N.n = true) (hv : Kl P N o E I v) (h : TQ P N ops R l ((d, v) :: E) I) : TQ P N ops R (o :: l) E I := fun a ha => by
 unfold wpQuiet;rw [if_pos (by simp [Region.wanted, hg])];refine ⟨v, fun w hw => ?_, ?_⟩
 ·unfold Oper.quietAt; rw [hv a w ha hw]; exact ⟨rfl, rfl⟩
 ·rw [hd]; exact h _ (ha.put d v (by simpa [Nat.blt_eq] using hN))
end
section
variable {o : Oper}
theorem Kk {x : Operand} {v : Value} (ho : o.op = .move x) (hx : ev E x = some v) : Kl P N o E I v := fun a w ha _ => by
 unfold execOp; rw [ho]; simp [ha.eval hx]
theorem KaD {x : Operand} {v : Value} (ho : o.op = .assign x) (hx : ev E x = some v) : Kl P N o E I v := fun a w ha _ => by
 unfold execOp; rw [ho]; simp [ha.eval hx]
theorem Kn {op : BinOp} {xt yt : TypeId} {x y : Operand} {k k' : IntKind} {m n : Int} {v : Value} (ho : o.op = .binOp op xt x y yt) (hx : ev E x = some (.int k m)) (hy : ev E y = some (.int k' n))
  (hv : ∀ w : World, (binOp op xt (.int k m) (.int k' n)).run P w = .ok v w) : Kl P N o E I v := fun a w ha _ => by
 have hgd : (eqGuard op xt x y (.int k m) (.int k' n)).run P w = .ok () w := by
  cases op <;> simp [eqGuard]
 unfold execOp; rw [ho];simp only [ha.eval hx, ha.eval hy, Sem.run_bind, hgd, Result.andThen_ok, hv, Sem.run_pure]
theorem Kjn {xt : TypeId} {k : IntKind} {m n : Int} (w : World) : (binOp .add xt (.int k m) (.int k n)).run P w = .ok (.int k (k.wrap (m + n))) w := by simp [binOp, go_sem]
theorem Kk8 {op : BinOp} {xt : TypeId} {k : IntKind} {m n : Int} (h : op = .and \/ op = .or \/ op = .xor) (w : World) : (binOp op xt (.int k m) (.int k n)).run P w = .ok (.int k (bits op k m n)) w := by
 rcases h with rfl | rfl | rfl <;> simp [binOp, go_sem]
theorem KV {t : TypeId} {x i : Operand} {vx vi v : Value} (ho : o.op = .indexAddr t x i) (hx : ev E x = some vx) (hi : ev E i = some vi) (hv : ∀ w : World, (Instr.indexAt t vx vi).run P w = .ok v w) : Kl P N o E I v := fun a w ha _ => by
 unfold execOp; rw [ho];simp only [ha.eval hx, ha.eval hi, Sem.run_bind, hv, Result.andThen_ok, Sem.run_pure]
theorem KK {t : TypeId} {x : Operand} {p : Addr} {v : Value} (ho : o.op = .load t x) (hx : ev E x = some (.pointer (some p))) (hag : ∀ w : World, (isAgg t).run P w = .ok false w) (hc : ∀ w, I w -> w.cell? p = some v) : Kl P N o E I v := fun a w ha hw => by
 unfold execOp; rw [ho];simp only [ha.eval hx];simp [Instr.loadAt, Instr.sureAddr, loadVar, hag, hc w hw, go_sem]
end
def evs (E : Env) : List Operand -> Option (List Value)
 | [] => some []
 | x :: r => match ev E x, evs E r with
  | some v, some vs => some (v :: vs)
  | _, _ => none
theorem EnvOk.evals {a : Act} (h : EnvOk N E a) : ∀ {xs : List Operand} {vs : List Value}, evs E xs = some vs -> xs.map a.eval = vs
 | [], vs, hx => by simp [evs] at hx; simp [hx]
 | x :: r, vs, hx => by
  simp only [evs] at hx;split at hx
  ·rename_i v vr h1 h2
   injection hx with hx
   subst hx;simp [h.eval h1, EnvOk.evals h h2]
  ·cases hx
theorem KcV {o : Oper} {a : Act} {w : World} {f : FuncId} {fn : Func} {xs : List Operand} {ts : Array TypeId} {vs : List Value} (ha : EnvOk N E a) (ho : o.op = .call { callee := .value (.func f), args := xs.toArray, argTypes := ts }) (hx : evs E xs = some vs)
  (hf : P.funcs[f]? = some fn) (hn : (fn.name == "runtime.NumGoroutine") = false) (hb : fn.body.isNone = false) : (execOp a.eval o).run P w = .ok (.enter f vs.toArray) w := by
 unfold execOp; rw [ho];have harr : xs.toArray.map a.eval = vs.toArray := by rw [List.map_toArray, ha.evals hx]
 have hfn : a.eval (.func f) = .func (.func f) #[] #[] := rfl;simp only [resolve, harr, hfn, Deferred.ofValue];have hn' : ¬ fn.name = "runtime.NumGoroutine" := by simpa using hn
 have hb' : ¬ fn.body = none := by intro e; rw [e] at hb; simp at hb
 simp [invoke, callFunc, hf, hn', hb', go_sem]
theorem TQ.call {ops : Array Oper} {l : List Oper} {o : Oper} {R : Act -> Prop} {d : Nat} {v : Value} {f : FuncId} {fn : Func} {xs : List Operand} {ts : Array TypeId} {vs : List Value} (hg : o.guard = none) (hd : o.dst = some d) (hN : Nat.blt d N.n = true)
  (ho : o.op = .call { callee := .value (.func f), args := xs.toArray, argTypes := ts }) (hx : evs E xs = some vs) (hf : P.funcs[f]? = some fn) (hn : (fn.name == "runtime.NumGoroutine") = false) (hb : fn.body.isNone = false)
  (hc : ∀ w, I w -> Calls P f vs.toArray w fun e w' => e = .returned v /\ I w') (h : TQ P N ops R l ((d, v) :: E) I) : TQ P N ops R (o :: l) E I := fun a ha => by
 unfold wpQuiet;rw [if_pos (by simp [Region.wanted, hg])];refine ⟨v, fun w hw => ?_, ?_⟩
 ·unfold Oper.quietAt; rw [KcV ha ho hx hf hn hb]; exact ⟨rfl, hc w hw⟩
 ·rw [hd]; exact h _ (ha.put d v (by simpa [Nat.blt_eq] using hN))
theorem TL.call {α : Type} {ops : Array Oper} {l : List Oper} {o : Oper} {d : Nat} {f : FuncId} {fn : Func} {xs : List Operand} {ts : Array TypeId} {vs : List Value} {r : α -> Value} {I' : α -> World -> Prop} (hg : o.guard = none) (hd : o.dst = some d) (hN : Nat.blt d N.n = true)
  (ho : o.op = .call { callee := .value (.func f), args := xs.toArray, argTypes := ts }) (hx : evs E xs = some vs) (hf : P.funcs[f]? = some fn) (hn : (fn.name == "runtime.NumGoroutine") = false) (hb : fn.body.isNone = false)
  (hc : ∀ w, I w -> Calls P f vs.toArray w fun e w' => ∃ x, e = .returned (r x) /\ I' x w') (h : ∀ x, TL P N ops Q l ((d, r x) :: E) (I' x)) : TL P N ops Q (o :: l) E I := fun a w ha hw =>
 wpList_plain hg fun K hK => by
  unfold Oper.wp;rw [KcV ha ho hx hf hn hb, Oper.upon_enter];refine (hc w hw).mono ?_;rintro e w' ⟨x, rfl, hI⟩;show K (a.put o.dst (r x)) w';rw [hd];exact hK _ _ (h x _ _ (ha.put d _ (by simpa [Nat.blt_eq] using hN)) hI)
theorem TC.seq_ {x y : Code} (h : TC P N (Exit.then (y.wp P Q) Q) x E I) : TC P N Q (.seq x y) E I := fun a w ha hw => wp_seq (h a w ha hw)
theorem Km {xt : TypeId} {k : IntKind} {m n : Int} (w : World) : (binOp .lss xt (.int k m) (.int k n)).run P w = .ok (.bool (decide (m < n))) w := by simp [binOp, go_sem]
theorem Kf1 {o : Oper} {t : TypeId} {x i : Operand} {vx vi v : Value} (ho : o.op = .index t x i) (hx : ev E x = some vx) (hi : ev E i = some vi) (hv : ∀ w : World, (Instr.index t vx vi).run P w = .ok v w) : Kl P N o E I v := fun a w ha _ => by
 unfold execOp; rw [ho];simp only [ha.eval hx, ha.eval hi, Sem.run_bind, hv, Result.andThen_ok, Sem.run_pure]
theorem Kbc {t e : TypeId} {n : Nat} (ht : P.underlying t = some (.array n e)) (hs : ∀ w : World, (sizeOf e).run P w = .ok 1 w) (g off : Nat) (k : IntKind) (j : Nat) (hj : j < n) (w : World) : (Instr.indexAt t (.pointer (some ⟨g, off, none⟩)) (.int k (j : Int))).run P w = .ok (.pointer (some ⟨g, off + j, none⟩)) w := by
 have hadd : (⟨g, off, none⟩ : Addr).add j = ⟨g, off + j, none⟩ := by unfold Addr.add; split <;> simp_all
 simp [Instr.indexAt, run_underlying ht, Instr.sureAddr, asIntOf, hs, hadd, go_sem];omega
def TS (P : Program) (N : Fr) (ops : Array Oper) (R : Act -> World -> Prop) (l : List Oper) (E : Env) (I : World -> Prop) : Prop := ∀ a w, EnvOk N E a -> I w -> wpStill P ops w (fun a' => R a' w) l a
theorem TS.nil {ops : Array Oper} {R : Act -> World -> Prop} (h : ∀ a w, EnvOk N E a -> I w -> R a w) : TS P N ops R [] E I := fun a w ha hw => h a w ha hw
theorem TS.val {ops : Array Oper} {l : List Oper} {o : Oper} {R : Act -> World -> Prop} {d : Nat} {v : Value} (hg : o.guard = none) (hd : o.dst = some d) (hN : Nat.blt d N.n = true) (hv : Kl P N o E I v) (h : TS P N ops R l ((d, v) :: E) I) : TS P N ops R (o :: l) E I := fun a w ha hw => by
 unfold wpStill;rw [if_pos (by simp [Region.wanted, hg])];unfold Oper.still;rw [hv a w ha hw, Oper.stillUpon_value, hd];exact h _ _ (ha.put d v (by simpa [Nat.blt_eq] using hN)) hw
theorem TC.tail {id : Nat} {l : List Oper} (n : Nat) (hm : P.follows .mixedOrders = true) (hB : Region.lexTailB .any l.toArray n = true) (hI : ∀ w, I w -> I { w with drawn := w.drawn + 1 })
  (h : TS P N l.toArray (fun a w => wpList P l.toArray Q (l.drop n) a w) (l.take n) E I) : TC P N Q (.region id l.toArray true) E I := fun a w ha hw =>
 wp_region_still_tail n hm hB (h a _ ha (hI w hw))
theorem Kc {fn : Func} {t : Tmp} {v : Value} {R : Ending -> World -> Prop} (hr : fn.results = #[.tmp t]) (hv : look E t = some v) (hR : ∀ w, I w -> R (.returned v) w) (hD : N.ds = [] := by rfl) : ∀ a w, EnvOk N E a -> I w -> bodyPost P fn R .ret a w := fun a w ha hw =>
 ⟨ha.defers.trans hD, v, by rw [results_tmp hr]; have := ha.slot t v hv; simp [this], hR w hw⟩
theorem Kg {f : FuncId} {fn : Func} {c : Code} {vs : List Value} {R : Ending -> World -> Prop} {w : World} (hf : P.funcs[f]? = some fn) (hb : fn.body = some c) (hN : (⟨fn.ntmps, []⟩ : Fr) = N) (hn : Nat.ble vs.length N.n = true)
  (h : TC P N (bodyPost P fn R) c (vs.zipIdx.map fun x => (x.2, x.1)) I) (hw : I w) : Calls P f vs.toArray w R := by
 subst hN;refine calls_of_wp hf hb (h _ _ ⟨rfl, ?_, ?_⟩ hw)
 ·have : vs.length <= fn.ntmps := by simpa [Nat.ble_eq] using hn
  simp; omega
 ·intro t v hv
  have key : ∀ (us : List Value) (k : Nat), look ((us.zipIdx k).map fun x => (x.2, x.1)) t = some v -> k <= t /\ us[t - k]? = some v := by
   intro us
   induction us with
   | nil => intro k h; simp [look] at h
   | cons u us ih =>
    intro k h;simp only [List.zipIdx_cons, List.map_cons, look] at h;by_cases e : k = t
    ·subst e;have hb : Nat.beq k k = true := by simp
     rw [hb] at h;simp at h;subst h;simp
    ·have hb : Nat.beq k t = false := by
      cases hq : Nat.beq k t with
      | false => rfl
      | true => exact absurd (Nat.eq_of_beq_eq_true hq) e
     rw [hb] at h;obtain ⟨h1, h2⟩ := ih (k + 1) h;refine ⟨by omega, ?_⟩;rw [show t - k = (t - (k + 1)) + 1 by omega]
     simpa using h2
  obtain ⟨_, h2⟩ := key vs 0 hv;simp only [Nat.sub_zero] at h2;have hlt : t < vs.length := (List.getElem?_eq_some_iff.1 h2).1;simp [Array.getElem?_append, hlt];exact (List.getElem?_eq_some_iff.1 h2).2
def Has (E : Env) : Env -> Prop
 | [] => True
 | p :: r => look E p.1 = some p.2 /\ Has E r
theorem Kgh : ∀ {E : Env} {t : Nat} {v : Value}, look E t = some v -> (t, v) ∈ E
 | [], t, v, h => by simp [look] at h
 | (k, u) :: r, t, v, h => by
  simp only [look] at h;by_cases e : Nat.beq k t = true
  ·rw [e] at h;simp only [cond_true, Option.some.injEq] at h;have := Nat.eq_of_beq_eq_true e;subst this h;exact List.mem_cons_self
  ·have e : Nat.beq k t = false := by cases hq : Nat.beq k t with
    | false => rfl
    | true => exact absurd hq e
   rw [e] at h;exact List.mem_cons_of_mem _ (Kgh h)
theorem Has.mem {E : Env} : ∀ {E' : Env}, Has E E' -> ∀ p ∈ E', look E p.1 = some p.2
 | [], _, p, hp => absurd hp List.not_mem_nil
 | q :: r, h, p, hp => by
  rcases List.mem_cons.1 hp with rfl | hp
  ·exact h.1
  ·exact Has.mem h.2 p hp
theorem EnvOk.of_list {E' : Env} {a : Act} (h : EnvOk N E a) (hE : Has E E') : EnvOk N E' a := h.weak fun t v hv => hE.mem _ (Kgh hv)
def evp (E : Env) : List (Nat × Operand) -> Option (List (Nat × Value))
 | [] => some []
 | (i, x) :: r => match ev E x, evp E r with
  | some v, some vs => some ((i, v) :: vs)
  | _, _ => none
theorem EnvOk.evalps {a : Act} (h : EnvOk N E a) : ∀ {xs : List (Nat × Operand)} {vs : List (Nat × Value)}, evp E xs = some vs -> xs.map (fun p => (p.1, a.eval p.2)) = vs
 | [], vs, hx => by simp [evp] at hx; simp [hx]
 | (i, x) :: r, vs, hx => by
  simp only [evp] at hx;split at hx
  ·rename_i v vr h1 h2
   injection hx with hx
   subst hx;simp [h.eval h1, EnvOk.evalps h h2]
  ·cases hx
theorem Kj {o : Oper} {t : TypeId} {xs : List (Nat × Operand)} {vs : List (Nat × Value)} {v : Value} (ho : o.op = .build t xs.toArray) (hx : evp E xs = some vs) (hv : ∀ w : World, (Instr.build t vs.toArray).run P w = .ok v w) : Kl P N o E I v := fun a w ha _ => by
 unfold execOp; rw [ho];have : xs.toArray.map (fun x => (x.1, a.eval x.2)) = vs.toArray := by rw [List.map_toArray, ha.evalps hx]
 simp only [this, Sem.run_bind, hv, Result.andThen_ok, Sem.run_pure]
end
abbrev Own := List (Nat × TypeId × List Value)
structure Mem (w0 : World) (L : Own) (w : World) : Prop where
  bel : Below w0.heap.size w0 w
  own : ∀ x ∈ L, Blk w x.1 x.2.1 x.2.2.toArray /\ w0.heap.size <= x.1
  apart : (L.map (·.1)).Nodup
section
variable {w0 w w' : World} {L : Own}
theorem Mem.at_ (h : Mem w0 L w) {k g : Nat} {t : TypeId} {cs : List Value} (hk : L[k]? = some (g, t, cs)) : Blk w g t cs.toArray /\ w0.heap.size <= g := h.own _ (List.mem_of_getElem? hk)
theorem Mem.cell (h : Mem w0 L w) {k g : Nat} {t : TypeId} {cs : List Value} (hk : L[k]? = some (g, t, cs)) (i : Nat) : w.cell? ⟨g, i, none⟩ = cs[i]? := by
  rw [(h.at_ hk).1.cell i]; simp
theorem Mem.drawn (h : Mem w0 L w) (n : Nat) : Mem w0 L { w with drawn := n } := ⟨⟨h.bel.os, h.bel.tape, h.bel.output, h.bel.size, h.bel.block⟩, h.own, h.apart⟩
theorem Mem.below (h : Mem w0 L w) (hb : Below w.heap.size w w') : Mem w0 L w' :=
  ⟨h.bel.trans (hb.mono h.bel.size), fun x hx => ⟨(h.own x hx).1.below hb (h.own x hx).1.lt, (h.own x hx).2⟩, h.apart⟩
theorem Mem.start (w : World) : Mem w [] w := ⟨Below.refl _ _, (fun x hx => absurd hx List.not_mem_nil), List.nodup_nil⟩
theorem Mem.new (h : Mem w0 L w) (t : TypeId) (cs : List Value) : Mem w0 ((w.heap.size, t, cs) :: L) (w.alloc (.cells cs.toArray t)) := by
  refine ⟨h.bel.alloc h.bel.size _, fun x hx => ?_, ?_⟩
  · rcases List.mem_cons.1 hx with rfl | hx
    · exact ⟨Blk.new _ _ _, h.bel.size⟩
    · exact ⟨(h.own x hx).1.alloc _, (h.own x hx).2⟩
  · simp only [List.map_cons, List.nodup_cons];refine ⟨fun hm => ?_, h.apart⟩;obtain ⟨x, hx, he⟩ := List.mem_map.1 hm;have := (h.own x hx).1.lt;omega
def KcJ (L : Own) (k : Nat) (cs : List Value) : Own := L.modify k (fun x => (x.1, x.2.1, cs))
theorem Mem.setRow (h : Mem w0 L w) {k g : Nat} {t : TypeId} {cs : List Value} (hk : L[k]? = some (g, t, cs)) (cs' : List Value) : Mem w0 (KcJ L k cs') (w.setRow g cs'.toArray) := by
  obtain ⟨hb, hg⟩ := h.at_ hk
  have hkeys : (KcJ L k cs').map (·.1) = L.map (·.1) := by
    apply List.ext_getElem?;intro i;simp only [KcJ, List.getElem?_map, List.getElem?_modify];by_cases e : k = i
    · subst e; simp [hk]
    · simp [e]
  refine ⟨below_setRow h.bel hg _, fun x hx => ?_, by rw [hkeys]; exact h.apart⟩;obtain ⟨i, hi⟩ := List.getElem?_of_mem hx;simp only [KcJ, List.getElem?_modify] at hi;by_cases e : k = i
  · subst e;simp [hk] at hi;subst hi;exact ⟨setRow_heap w g _ _ _ _ hb, hg⟩
  · cases hL : L[i]? with
    | none => simp [hL] at hi
    | some y =>
      simp [hL, e] at hi;subst hi;obtain ⟨hy, hyg⟩ := h.own y (List.mem_of_getElem? hL);refine ⟨(setRow_other _ _ _ _ ?_).trans hy, hyg⟩;intro he;have hn := h.apart;have h1 : (L.map (·.1))[k]? = some g := by simp [hk]
      have h2 : (L.map (·.1))[i]? = some g := by simp [hL, he]
      exact e ((List.getElem?_inj (by have := (List.getElem?_eq_some_iff.1 h1).1; exact this) hn).1 (h1.trans h2.symm))
end
section
variable {P : Program} {N : Fr} {Q : Exit -> Act -> World -> Prop} {E : Env} {w0 : World} {L : Own} {ops : Array Oper} {l : List Oper} {o : Oper}
theorem TL.new {d : Nat} {t : TypeId} {cs : List Value} (hg : o.guard = none) (hd : o.dst = some d) (hN : Nat.blt d N.n = true)
    (hr : ∀ a w, EnvOk N E a -> (execOp a.eval o).run P w = .ok (.value (.pointer (some ⟨w.heap.size, 0, none⟩))) (w.alloc (.cells cs.toArray t)))
    (h : ∀ g, TL P N ops Q l ((d, .pointer (some ⟨g, 0, none⟩)) :: E) (Mem w0 ((g, t, cs) :: L))) : TL P N ops Q (o :: l) E (Mem w0 L) := fun a w ha hw =>
  wpList_plain hg fun K hK => by
    unfold Oper.wp;rw [hr a w ha];show K (a.put o.dst _) _;rw [hd];exact hK _ _ (h _ _ _ (ha.put d _ (by simpa [Nat.blt_eq] using hN)) (hw.new t cs))
theorem KgO {t : TypeId} {v : Value} (w : World) : (newVar t v).run P w = .ok ⟨w.heap.size, 0, none⟩ (w.alloc (.cells v.cells t)) := rfl
theorem KiP {t : TypeId} {z : Value} {cs : List Value} (ho : o.op = .alloc t) (hz : ∀ w : World, (zeroValue t).run P w = .ok z w) (hc : z.cells = cs.toArray) (a : Act) (w : World) (ha : EnvOk N E a) :
    (execOp a.eval o).run P w = .ok (.value (.pointer (some ⟨w.heap.size, 0, none⟩))) (w.alloc (.cells cs.toArray t)) := by
  unfold execOp; rw [ho];simp only [Instr.alloc, Sem.run_bind, hz, Result.andThen_ok, KgO, hc, Sem.run_pure]
theorem Kjy {t : TypeId} {x : Operand} {v : Value} {cs : List Value} (ho : o.op = .box t x) (hx : ev E x = some v) (hc : v.cells = cs.toArray) (a : Act) (w : World) (ha : EnvOk N E a) :
    (execOp a.eval o).run P w = .ok (.value (.pointer (some ⟨w.heap.size, 0, none⟩))) (w.alloc (.cells cs.toArray t)) := by
  unfold execOp; rw [ho];simp only [ha.eval hx];simp only [Instr.box, Sem.run_bind, Result.andThen_ok, KgO, hc, Sem.run_pure]
theorem TL.store {t te : TypeId} {x y : Operand} {g off k : Nat} {v : Value} {cs vs : List Value} (hg : o.guard = none) (hd : o.dst = none) (ho : o.op = .store t x y) (hx : ev E x = some (.pointer (some ⟨g, off, none⟩))) (hy : ev E y = some v)
    (hk : L[k]? = some (g, te, cs)) (hv : v.cells = vs.toArray) (hs : ∀ w : World, (sizeOf t).run P w = .ok vs.length w) (h1 : ∀ u ∈ vs, u.oneCell' = true) (hl : off + vs.length <= cs.length) {L' : Own} (hL : KcJ L k (cs.take off ++ vs ++ cs.drop (off + vs.length)) = L')
    (h : TL P N ops Q l E (Mem w0 L')) : TL P N ops Q (o :: l) E (Mem w0 L) := fun a w ha hw =>
  wpList_plain hg fun K hK => by
    have hrun : (execOp a.eval o).run P w = .ok .skip (w.setRow g (cs.take off ++ vs ++ cs.drop (off + vs.length)).toArray) := by
      unfold execOp; rw [ho];simp only [ha.eval hx, ha.eval hy];have hst := run_storeCells_at (P := P) g off te vs 0 cs.toArray w (hw.at_ hk).1 (by simpa using hl) h1;simp only [Nat.add_zero] at hst
      have hsv : (storeVar t ⟨g, off, none⟩ v).run P w = .ok () (w.setRow g (cs.take off ++ vs ++ cs.drop (off + vs.length)).toArray) := by
        unfold storeVar;simp only [Sem.run_bind, hs, Result.andThen_ok, hv]
        simpa [Result.andThen] using hst
      simp only [Instr.storeAt, Instr.sureAddr, Sem.run_bind, Sem.run_pure, Result.andThen_ok, hsv]
    unfold Oper.wp;rw [hrun];show K (a.put o.dst undef) _;rw [hd];exact hK _ _ (h _ _ (ha.put0 _) (hL ▸ hw.setRow hk _))
theorem TC.loop {c : Code} {α : Type} {I : World -> Prop} (E' : α -> Env) (I' : α -> World -> Prop) (m : α -> Nat) (x0 : α) (h0 : ∀ a w, EnvOk N E a -> I w -> EnvOk N (E' x0) a /\ I' x0 w)
    (step : ∀ x, TC P N (Exit.then (fun a w => ∃ y, m y < m x /\ EnvOk N (E' y) a /\ I' y w) Q) c (E' x) (I' x)) : TC P N Q (.loop c) E I := fun a w ha hw =>
  wp_loop_ghost (fun n a w => ∃ x, m x = n /\ EnvOk N (E' x) a /\ I' x w) (m x0) ⟨x0, rfl, (h0 a w ha hw).1, (h0 a w ha hw).2⟩ fun n a w ⟨x, hx, h1, h2⟩ =>
    Code.wp_mono (fun e a' w' q => by
      cases e with
      | normal => obtain ⟨y, hy, hE, hI⟩ := q; exact ⟨m y, by omega, y, rfl, hE, hI⟩
      | _ => exact q) (step x a w h1 h2)
end
inductive Pc where
  | blk (g : Nat) (t : TypeId) (cs : List Value)
  | row (v : Value) (e : TypeId) (size n : Nat) (xs : List Value)
  | oth (k : Nat) (o : Obj)
  | abs (g : Nat) (p : World -> Prop)
def Pc.isAbs : Pc -> Bool
  | .abs _ _ => true
  | _ => false
def Kaw (l : List Pc) : Bool := l.all fun p => !p.isAbs
def Pc.key : Pc -> Option Nat
  | .blk g _ _ => some g
  | .row v _ _ _ _ => v.ownBlock
  | .oth k _ => some k
  | .abs g _ => some g
def Pc.ok (B : Nat) (w : World) : Pc -> Prop
  | .blk g t cs => Blk w g t cs.toArray /\ B <= g
  | .row v e size n xs => w.ownsRow B e size v n xs
  | .oth k o => w.heap[k]? = some o /\ B <= k
  | .abs g p => p w /\ B <= g /\ (∃ o : Obj, w.heap[g]? = some o /\ o.isCells = true) /\ ∀ w1 w2 : World, p w1 -> (∀ k, k < B \/ k = g -> w2.heap[k]? = w1.heap[k]?) -> p w2
theorem Pc.lt {B : Nat} {w : World} {p : Pc} (h : p.ok B w) : ∀ g, p.key = some g -> B <= g /\ g < w.heap.size := by
  intro g hg
  cases p with
  | blk g' t cs =>
    simp only [Pc.key, Option.some.injEq] at hg;subst hg;exact ⟨h.2, h.1.lt⟩
  | row v e size n xs => exact World.ownsRow.lt h g hg
  | oth k o =>
    simp only [Pc.key, Option.some.injEq] at hg;subst hg;exact ⟨h.2, (Array.getElem?_eq_some_iff.1 h.1).1⟩
  | abs g' p =>
    simp only [Pc.key, Option.some.injEq] at hg;subst hg;obtain ⟨_, h2, ⟨o, ho, _⟩, _⟩ := h;exact ⟨h2, (Array.getElem?_eq_some_iff.1 ho).1⟩
theorem Pc.same {B : Nat} {w w' : World} {p : Pc} (h : p.ok B w) (hs : ∀ g, p.key = some g -> w'.heap[g]? = w.heap[g]?) (hB : ∀ k, k < B -> w'.heap[k]? = w.heap[k]?) : p.ok B w' := by
  cases p with
  | blk g t cs => exact ⟨(hs g rfl).trans h.1, h.2⟩
  | row v e size n xs =>
    refine ⟨h.1, ?_⟩;rcases h.2 with h | ⟨g, cap, cur, a, b, hg, r⟩
    · exact .inl h
    · exact .inr ⟨g, cap, cur, a, b, (hs g (by rw [a]; rfl)).trans hg, r⟩
  | oth k o => exact ⟨(hs k rfl).trans h.1, h.2⟩
  | abs g p =>
    obtain ⟨h1, h2, ⟨o, ho, hc⟩, h4⟩ := h;exact ⟨h4 _ _ h1 fun k hk => hk.elim (hB k) (fun e => by subst e; exact hs k rfl), h2, ⟨o, (hs g rfl).trans ho, hc⟩, h4⟩
def keys : List Pc -> List Nat
  | [] => []
  | p :: r => match p.key with
    | some g => g :: keys r
    | none => keys r
structure Base where
  w : World
  b : Nat
instance : Coe World Base := ⟨fun w => ⟨w, w.heap.size⟩⟩
structure Pm (w0 : Base) (L : List Pc) (w : World) : Prop where
  bel : Below w0.b w0.w w
  own : ∀ p ∈ L, p.ok w0.b w
  apart : L.Pairwise fun p q => ∀ g, p.key = some g -> q.key ≠ some g
  oth : KeepsOthers w0.w w
  low : w0.b <= w0.w.heap.size
section
variable {w0 : Base} {w w' : World} {L : List Pc}
theorem Pm.base (h : Pm w0 L w) : w0.b <= w.heap.size := Nat.le_trans h.low h.bel.size
theorem Kg2 {w w' : World} (h : Below w.heap.size w w') : KeepsOthers w w' := ⟨h.size, fun k o hk _ => (h.block k (Array.getElem?_eq_some_iff.1 hk).1).trans hk⟩
theorem Pm.start (w : World) : Pm w [] w := ⟨Below.refl _ _, (fun x hx => absurd hx List.not_mem_nil), List.Pairwise.nil, KeepsOthers.refl w, Nat.le_refl _⟩
theorem Pm.drawn (h : Pm w0 L w) (n : Nat) : Pm w0 L { w with drawn := n } := ⟨⟨h.bel.os, h.bel.tape, h.bel.output, h.bel.size, h.bel.block⟩, fun p hp => Pc.same (h.own p hp) (fun _ _ => rfl) (fun _ _ => rfl), h.apart, ⟨h.oth.size, h.oth.same⟩, h.low⟩
theorem Pm.at_ (h : Pm w0 L w) {k : Nat} {p : Pc} (hk : L[k]? = some p) : p.ok w0.b w := h.own _ (List.mem_of_getElem? hk)
theorem Pm.below (h : Pm w0 L w) (hb : Below w.heap.size w w') : Pm w0 L w' :=
  ⟨h.bel.trans (hb.mono h.base), fun p hp => Pc.same (h.own p hp) (fun g hg => hb.block g (Pc.lt (h.own p hp) g hg).2) (fun k hk => hb.block k (Nat.lt_of_lt_of_le hk h.base)), h.apart, h.oth.trans (Kg2 hb), h.low⟩
theorem Pm.add (h : Pm w0 L w) (hb : Below w.heap.size w w') {p : Pc} (hp : p.ok w.heap.size w') (hna : p.isAbs = false := by rfl) : Pm w0 (p :: L) w' := by
  have h' := h.below hb;refine ⟨h'.bel, fun q hq => ?_, List.Pairwise.cons (fun q hq g hg he => ?_) h.apart, h'.oth, h.low⟩
  · rcases List.mem_cons.1 hq with rfl | hq
    · cases q with
      | blk g t cs => exact ⟨hp.1, Nat.le_trans h.base hp.2⟩
      | row v e size n xs => exact Kfl hp h.base
      | oth k o => exact ⟨hp.1, Nat.le_trans h.base hp.2⟩
      | abs g p => cases hna
    · exact h'.own q hq
  · have h1 := (Pc.lt hp g hg).1;have h2 := (Pc.lt (h.own q hq) g he).2;omega
theorem Pm.new (h : Pm w0 L w) (t : TypeId) (cs : List Value) : Pm w0 (.blk w.heap.size t cs :: L) (w.alloc (.cells cs.toArray t)) :=
  h.add ((Below.refl _ _).alloc (Nat.le_refl _) _) ⟨Blk.new _ _ _, Nat.le_refl _⟩
theorem Pm.trans {L' : List Pc} (h : Pm w0 L w) (h' : Pm ⟨w, w0.b⟩ L' w') : Pm w0 L' w' := ⟨h.bel.trans h'.bel, h'.own, h'.apart, h.oth.trans h'.oth, h.low⟩
theorem Pc.cells {bb : Nat} {w : World} {p : Pc} (h : p.ok bb w) (hp : ∀ k o, p = .oth k o -> False) : ∀ g, p.key = some g -> ∃ o, w.heap[g]? = some o /\ o.isCells = true := by
  intro g hg
  cases p with
  | blk g' t cs =>
    simp only [Pc.key, Option.some.injEq] at hg;subst hg;exact ⟨_, h.1, rfl⟩
  | row v e size n xs =>
    rcases h.2 with ⟨rfl, _⟩ | ⟨g', cap, cur, a, b, hg', r⟩
    · simp [Pc.key, Value.ownBlock] at hg
    · have : v.ownBlock = some g := hg;rw [a] at this;simp only [Value.ownBlock, Option.some.injEq] at this;subst this;exact ⟨_, hg', rfl⟩
  | oth k o => exact (hp k o rfl).elim
  | abs g' p =>
    simp only [Pc.key, Option.some.injEq] at hg;subst hg;exact h.2.2.1
theorem Pm.turn (h : Pm w0 L w) {k : Nat} {p p' : Pc} (hk : L[k]? = some p) (hg : w.grownBy w' p.key) (hp : p'.ok w0.b w') (hkey : ∀ g, p'.key = some g -> p.key = some g \/ w.heap.size <= g) (hc : ∀ k o, p = .oth k o -> False) : Pm w0 (L.set k p') w' := by
  have hpo := h.at_ hk;refine ⟨(h.bel).grown hg h.base fun g hg => (Pc.lt hpo g hg).1, fun q hq => ?_, ?_, h.oth.trans (KeepsOthers.of_grownBy hg fun j o hj ho => ?_), h.low⟩
  · obtain ⟨i, hi⟩ := List.getElem?_of_mem hq;rw [List.getElem?_set] at hi;by_cases e : k = i
    · subst e;have hlt := (List.getElem?_eq_some_iff.1 hk).1;simp [hlt] at hi;subst hi;exact hp
    · rw [if_neg e] at hi;refine Pc.same (h.at_ hi) (fun g hgq => hg.block g (Pc.lt (h.at_ hi) g hgq).2 fun he => ?_) (fun k' hk' => hg.block k' (Nat.lt_of_lt_of_le hk' h.base) fun he => ?_)
      rotate_left
      · have := (Pc.lt hpo k' he.symm).1;omega
      have hlt := (List.getElem?_eq_some_iff.1 hk).1;have hlt' := (List.getElem?_eq_some_iff.1 hi).1;have ek := (List.getElem?_eq_some_iff.1 hk).2;have ei := (List.getElem?_eq_some_iff.1 hi).2;rcases Nat.lt_or_gt_of_ne e with h1 | h1
      · exact List.pairwise_iff_getElem.1 h.apart k i hlt hlt' h1 g (by rw [ek]; exact he.symm) (by rw [ei]; exact hgq)
      · exact List.pairwise_iff_getElem.1 h.apart i k hlt' hlt h1 g (by rw [ei]; exact hgq) (by rw [ek]; exact he.symm)
  · refine List.pairwise_iff_getElem.2 fun i j hi hj hij g hgi hgj => ?_;have hlk := (List.getElem?_eq_some_iff.1 hk).1;have ek := (List.getElem?_eq_some_iff.1 hk).2;have hi' : i < L.length := by simpa using hi
    have hj' : j < L.length := by simpa using hj
    have hap := List.pairwise_iff_getElem.1 h.apart;rw [List.getElem_set] at hgi hgj;by_cases e1 : k = i
    · subst e1;rw [if_pos rfl] at hgi;rw [if_neg (by omega)] at hgj;rcases hkey g hgi with h1 | h1
      · exact hap k j hi' hj' hij g (by rw [ek]; exact h1) hgj
      · have := (Pc.lt (h.own _ (List.getElem_mem hj')) g hgj).2;omega
    · rw [if_neg e1] at hgi;by_cases e2 : k = j
      · subst e2;rw [if_pos rfl] at hgj;rcases hkey g hgj with h1 | h1
        · exact hap i k hi' hj' hij g hgi (by rw [ek]; exact h1)
        · have := (Pc.lt (h.own _ (List.getElem_mem hi')) g hgi).2;omega
      · rw [if_neg e2] at hgj;exact hap i j hi' hj' hij g hgi hgj
  · obtain ⟨o', h1, h2⟩ := Pc.cells hpo hc j hj;rw [ho] at h1
    injection h1 with h1
    rw [h1]; exact h2
theorem Kc7 {g : Nat} (cs : Array Value) (w : World) : w.grownBy (w.setRow g cs) (some g) := by
  refine ⟨rfl, rfl, rfl, ?_, fun k hk hne => ?_⟩
  · simp [World.setRow]
  · have : k ≠ g := fun e => hne (by rw [e]);simp [World.setRow, Array.getElem?_modify, this.symm]
theorem Pm.setRow (h : Pm w0 L w) {k g : Nat} {t : TypeId} {cs : List Value} (hk : L[k]? = some (.blk g t cs)) (cs' : List Value) : Pm w0 (L.set k (.blk g t cs')) (w.setRow g cs'.toArray) := by
  obtain ⟨hb, hg⟩ := h.at_ hk;exact h.turn hk (Kc7 _ _) ⟨setRow_heap w g _ _ _ _ hb, hg⟩ (fun g' hg' => .inl hg') (fun k o e => by cases e)
theorem Pm.cell (h : Pm w0 L w) {k g : Nat} {t : TypeId} {cs : List Value} (hk : L[k]? = some (.blk g t cs)) (i : Nat) : w.cell? ⟨g, i, none⟩ = cs[i]? := by
  rw [(h.at_ hk).1.cell i]; simp
end
section
variable {P : Program} {N : Fr} {Q : Exit -> Act -> World -> Prop} {E : Env} {w0 : Base} {L : List Pc} {ops : Array Oper} {l : List Oper} {o : Oper}
theorem TL.run {I : World -> Prop} {α : Type} {d : Nat} {r : α -> Value} {I' : α -> World -> Prop} (hg : o.guard = none) (hd : o.dst = some d) (hN : Nat.blt d N.n = true)
    (hr : ∀ a w, EnvOk N E a -> I w -> ∃ x w', (execOp a.eval o).run P w = .ok (.value (r x)) w' /\ I' x w')
    (h : ∀ x, TL P N ops Q l ((d, r x) :: E) (I' x)) : TL P N ops Q (o :: l) E I := fun a w ha hw =>
  wpList_plain hg fun K hK => by
    obtain ⟨x, w', hx, hI⟩ := hr a w ha hw;unfold Oper.wp;rw [hx];show K (a.put o.dst _) _;rw [hd];exact hK _ _ (h x _ _ (ha.put d _ (by simpa [Nat.blt_eq] using hN)) hI)
theorem TL.pnew {d : Nat} {t : TypeId} {cs : List Value} (hg : o.guard = none) (hd : o.dst = some d) (hN : Nat.blt d N.n = true)
    (hr : ∀ a w, EnvOk N E a -> (execOp a.eval o).run P w = .ok (.value (.pointer (some ⟨w.heap.size, 0, none⟩))) (w.alloc (.cells cs.toArray t)))
    (h : ∀ g, TL P N ops Q l ((d, .pointer (some ⟨g, 0, none⟩)) :: E) (Pm w0 (.blk g t cs :: L))) : TL P N ops Q (o :: l) E (Pm w0 L) :=
  TL.run (α := Nat) (r := fun g => .pointer (some ⟨g, 0, none⟩)) (I' := fun g => Pm w0 (.blk g t cs :: L)) hg hd hN (fun a w ha hw => ⟨w.heap.size, _, hr a w ha, hw.new t cs⟩) h
theorem TL.append {d k : Nat} {s x : Operand} {t e : TypeId} {size bytes n c m cc : Nat} {A0 A : Option Addr} {olds news : List Value} (hg : o.guard = none) (hd : o.dst = some d) (hN : Nat.blt d N.n = true)
    (ho : o.op = .call { callee := .builtin .append, args := #[s, x], argTypes := #[t, t] }) (hE : Elem P t e size bytes) (hs : ev E s = some (.slice A0 n c)) (hx : ev E x = some (.slice A m cc))
    (hk : L[k]? = some (.row (.slice A0 n c) e size n olds)) (hr : ∀ w, Pm w0 L w -> ∃ B, Kd w B size A m news) (h1 : ∀ u ∈ news, u.oneCell' = true) (hlim : (n + m) * bytes <= 140737488355328) (M : Nat) (hM : M = n + m)
    (h : ∀ A' c', M <= c' -> c' <= maxLen -> TL P N ops Q l ((d, .slice A' M c') :: E) (Pm w0 (L.set k (.row (.slice A' M c') e size M (olds ++ news))))) : TL P N ops Q (o :: l) E (Pm w0 L) := by
  subst hM;refine TL.run (α := { p : Option Addr × Nat // n + m <= p.2 /\ p.2 <= maxLen }) (r := fun p => .slice p.1.1 (n + m) p.1.2) (I' := fun p => Pm w0 (L.set k (.row (.slice p.1.1 (n + m) p.1.2) e size (n + m) (olds ++ news)))) hg hd hN (fun a w ha hw => ?_) (fun p => h p.1.1 p.1.2 p.2.1 p.2.2);obtain ⟨i, z, hi, hz, hsz, hby, hzs⟩ := hE.info;obtain ⟨B, hrd⟩ := hr w hw
  have hmx : n + m <= maxLen := by
    have : n + m <= (n + m) * bytes := Nat.le_mul_of_pos_right _ hE.big;unfold maxLen; omega
  obtain ⟨v', w', hrun, hown', hgr, hkey⟩ := Kfi (P := P) w w0.b t o.type e i z size bytes hE.und hi hz hsz hby hzs hE.pos _ n olds (hw.at_ hk) B A m cc news hrd h1 hmx hlim hw.base;obtain ⟨A', c', rfl, hc1, hc2⟩ := KdZ hown';refine ⟨⟨(A', c'), hc1, hc2⟩, w', ?_, hw.turn hk hgr hown' (fun g hg => ?_) (fun k o e => ?_)⟩
  · unfold execOp; rw [ho];simp only [resolve, invoke, builtin, Sem.run_bind, Sem.run_pure, Result.andThen_ok, List.map_toArray, List.map_cons, List.map_nil, ha.eval hs, ha.eval hx, hrun]
  · rcases hkey with hkey | hkey
    · exact .inl (hkey.symm.trans hg)
    · right
      have : (Value.slice A' (n + m) c').ownBlock = some g := hg;rw [hkey] at this
      injection this with this
      omega
  · cases e
theorem TL.pstore {t te : TypeId} {x y : Operand} {g off k : Nat} {v : Value} {cs vs : List Value} (hg : o.guard = none) (hd : o.dst = none) (ho : o.op = .store t x y) (hx : ev E x = some (.pointer (some ⟨g, off, none⟩))) (hy : ev E y = some v)
    (hk : L[k]? = some (.blk g te cs)) (hv : v.cells = vs.toArray) (hs : ∀ w : World, (sizeOf t).run P w = .ok vs.length w) (h1 : ∀ u ∈ vs, u.oneCell' = true) (hl : off + vs.length <= cs.length) {L' : List Pc} (hL : L.set k (.blk g te (cs.take off ++ vs ++ cs.drop (off + vs.length))) = L')
    (h : TL P N ops Q l E (Pm w0 L')) : TL P N ops Q (o :: l) E (Pm w0 L) := fun a w ha hw =>
  wpList_plain hg fun K hK => by
    have hrun : (execOp a.eval o).run P w = .ok .skip (w.setRow g (cs.take off ++ vs ++ cs.drop (off + vs.length)).toArray) := by
      unfold execOp; rw [ho];simp only [ha.eval hx, ha.eval hy];have hst := run_storeCells_at (P := P) g off te vs 0 cs.toArray w (hw.at_ hk).1 (by simpa using hl) h1;simp only [Nat.add_zero] at hst
      have hsv : (storeVar t ⟨g, off, none⟩ v).run P w = .ok () (w.setRow g (cs.take off ++ vs ++ cs.drop (off + vs.length)).toArray) := by
        unfold storeVar;simp only [Sem.run_bind, hs, Result.andThen_ok, hv]
        simpa [Result.andThen] using hst
      simp only [Instr.storeAt, Instr.sureAddr, Sem.run_bind, Sem.run_pure, Result.andThen_ok, hsv]
    unfold Oper.wp;rw [hrun];show K (a.put o.dst undef) _;rw [hd];exact hK _ _ (h _ _ (ha.put0 _) (hL ▸ hw.setRow hk _))
theorem Kce {t te : TypeId} {x : Operand} {g i k : Nat} {v : Value} {cs : List Value} (ho : o.op = .load t x) (hx : ev E x = some (.pointer (some ⟨g, i, none⟩))) (hag : ∀ w : World, (isAgg t).run P w = .ok false w)
    (hk : L[k]? = some (.blk g te cs)) (hi : cs[i]? = some v) : Kl P N o E (Pm w0 L) v := KK ho hx hag fun w hw => (hw.cell hk i).trans hi
theorem KjN {t te : TypeId} {x : Operand} {g i k n : Nat} {cs : List Value} (ho : o.op = .load t x) (hx : ev E x = some (.pointer (some ⟨g, i, none⟩))) (hag : ∀ w : World, (isAgg t).run P w = .ok true w) (hs : ∀ w : World, (sizeOf t).run P w = .ok n w)
    (hk : L[k]? = some (.blk g te cs)) (hi : i + n <= cs.length) : Kl P N o E (Pm w0 L) (.agg ((cs.drop i).take n).toArray) := fun a w ha hw => by
  unfold execOp; rw [ho];simp only [ha.eval hx];have hlen : ((cs.drop i).take n).length = n := by simp; omega
  have hl := run_loadCells_list (P := P) w ⟨g, i, none⟩ ((cs.drop i).take n) (fun j v hj => by
    have hadd : (⟨g, i, none⟩ : Addr).add j = ⟨g, i + j, none⟩ := by unfold Addr.add; split <;> simp_all
    rw [hadd, hw.cell hk (i + j)];simp only [List.getElem?_take, List.getElem?_drop] at hj;split at hj
    · exact hj
    · cases hj)
  rw [hlen] at hl;simp only [Instr.loadAt, Instr.sureAddr, Sem.run_bind, Sem.run_pure, Result.andThen_ok, loadVar, hag, hs, hl, if_true]
theorem Kb0 {fn : Func} {p : Tmp} {t te : TypeId} {g k : Nat} {cs : List Value} {d : TypeDesc} {R : Ending -> World -> Prop} (hr : fn.results = #[.cell p t]) (hp : look E p = some (.pointer (some ⟨g, 0, none⟩))) (hk : L[k]? = some (.blk g te cs))
    (hu : P.underlying t = some d) (hd : (match d with | .struct _ | .array _ _ => true | _ => false) = true) (hi : (P.info? t).map (·.size) = some cs.length) (hR : ∀ w, Pm w0 L w -> R (.returned (.agg cs.toArray)) w) (hD : N.ds = [] := by rfl) :
    ∀ a w, EnvOk N E a -> Pm w0 L w -> bodyPost P fn R .ret a w := fun a w ha hw =>
  ⟨ha.defers.trans hD, .agg cs.toArray, results_cell_row hr a.tmps w g te cs.toArray (0, 0) d (by have := ha.slot p _ hp; simp [this]) (hw.at_ hk).1 hu hd (by simpa using hi), hR w hw⟩
theorem TL.pcall1 {d : Nat} {f : FuncId} {fn : Func} {xs : List Operand} {ts : Array TypeId} {vs : List Value} {r : Value} (hg : o.guard = none) (hd : o.dst = some d) (hN : Nat.blt d N.n = true)
    (ho : o.op = .call { callee := .value (.func f), args := xs.toArray, argTypes := ts }) (hx : evs E xs = some vs) (hf : P.funcs[f]? = some fn) (hn : (fn.name == "runtime.NumGoroutine") = false) (hb : fn.body.isNone = false)
    (hc : ∀ w, Pm w0 L w -> Calls P f vs.toArray w fun e w' => e = .returned r /\ Below w.heap.size w w') (h : TL P N ops Q l ((d, r) :: E) (Pm w0 L)) : TL P N ops Q (o :: l) E (Pm w0 L) :=
  TL.call (α := Unit) (r := fun _ => r) (I' := fun _ => Pm w0 L) hg hd hN ho hx hf hn hb (fun w hw => (hc w hw).mono fun e w' ⟨he, hb⟩ => ⟨(), he, hw.below hb⟩) (fun _ => h)
theorem KkJ {s : Operand} {t e : TypeId} {A : Option Addr} {n c : Nat} {I : World -> Prop} (ho : o.op = .call { callee := .builtin .len, args := #[s], argTypes := #[t] }) (ht : P.underlying t = some (.slice e)) (hs : ev E s = some (.slice A n c)) : Kl P N o E I (.int .i64 (n : Int)) := fun a w ha _ => by
  unfold execOp; rw [ho];simp only [resolve, invoke, builtin, Sem.run_bind, Sem.run_pure, Result.andThen_ok, List.map_toArray, List.map_cons, List.map_nil, ha.eval hs];simp [go_sem, Builtin.len_, run_underlying ht]
theorem Kay {t u : TypeId} {x : Operand} {vx v : Value} {I : World -> Prop} (ho : o.op = .convert t u x) (hx : ev E x = some vx) (hv : ∀ w : World, (convert t u vx).run P w = .ok v w) : Kl P N o E I v := fun a w ha _ => by
  unfold execOp; rw [ho];simp only [ha.eval hx, Sem.run_bind, hv, Result.andThen_ok, Sem.run_pure]
end
def TX (N : Fr) (Q : Exit -> Act -> World -> Prop) (e : Exit) (E : Env) (I : World -> Prop) : Prop := ∀ a w, EnvOk N E a -> I w -> Q e a w
section
variable {P : Program} {N : Fr} {Q : Exit -> Act -> World -> Prop} {E : Env} {I : World -> Prop} {id i : Nat} {y : Code}
theorem TX.of {e : Exit} (h : ∀ a w, EnvOk N E a -> I w -> Q e a w) : TX N Q e E I := h
theorem TL.end_ {ops : Array Oper} (h : TX N Q .normal E I) : TL P N ops Q [] E I := h
theorem TC.skip_ (h : TX N Q .normal E I) : TC P N Q .skip E I := fun a w ha hw => wp_skip (h a w ha hw)
theorem TC.exit_ (h : TX N Q (.exit id) E I) : TC P N Q (.exit id) E I := fun a w ha hw => wp_exit (h a w ha hw)
theorem TC.ret_ (h : TX N Q .ret E I) : TC P N Q .ret E I := fun a w ha hw => wp_ret (h a w ha hw)
theorem TQ.end_ {ops : Array Oper} : TQ P N ops (EnvOk N E) [] E I := fun a ha => ha
theorem TS.end_ {ops : Array Oper} {l : List Oper} (h : TL P N ops Q l E I) : TS P N ops (fun a w => wpList P ops Q l a w) [] E I := fun a w ha hw => h a w ha hw
theorem TX.then_ (h : TC P N Q y E I) : TX N (Exit.then (y.wp P Q) Q) .normal E I := h
theorem TX.then_exit {J : Act -> World -> Prop} (h : TX N Q (.exit i) E I) : TX N (Exit.then J Q) (.exit i) E I := h
theorem TX.then_ret {J : Act -> World -> Prop} (h : TX N Q .ret E I) : TX N (Exit.then J Q) .ret E I := h
theorem TX.in_normal (h : TX N Q .normal E I) : TX N (Exit.inBlock id Q) .normal E I := h
theorem TX.in_ret (h : TX N Q .ret E I) : TX N (Exit.inBlock id Q) .ret E I := h
theorem TX.in_same (h : TX N Q .normal E I) : TX N (Exit.inBlock id Q) (.exit id) E I := fun a w ha hw => by
  simpa [Exit.inBlock] using h a w ha hw
theorem TX.in_other (hne : Nat.beq i id = false) (h : TX N Q (.exit i) E I) : TX N (Exit.inBlock id Q) (.exit i) E I := fun a w ha hw => by
  have : i ≠ id := fun e => by subst e; simp at hne
  have h2 := h a w ha hw
  simpa [Exit.inBlock, this, Ne.symm this] using h2
theorem TX.round {α : Type} {E' : α -> Env} {I' : α -> World -> Prop} {m : α -> Nat} {b : Nat} (y : α) (hm : m y < b) (hE : Has E (E' y)) (hI : ∀ w, I w -> I' y w) :
    TX N (Exit.then (fun a w => ∃ y, m y < b /\ EnvOk N (E' y) a /\ I' y w) Q) .normal E I := fun a w ha hw => ⟨y, hm, ha.of_list hE, hI w hw⟩
theorem TC.loop_ {c : Code} {α : Type} (E' : α -> Env) (I' : α -> World -> Prop) (m : α -> Nat) (x0 : α) (hE : Has E (E' x0)) (hI : ∀ w, I w -> I' x0 w)
    (step : ∀ x, TC P N (Exit.then (fun a w => ∃ y, m y < m x /\ EnvOk N (E' y) a /\ I' y w) Q) c (E' x) (I' x)) : TC P N Q (.loop c) E I :=
  TC.loop E' I' m x0 (fun a w ha hw => ⟨ha.of_list hE, hI w hw⟩) step
theorem TC.cut (E' : Env) (I' : World -> Prop) (hE : Has E E') (hI : ∀ w, I w -> I' w) (h : TC P N Q y E' I') : TC P N Q y E I := fun a w ha hw => h a w (ha.of_list hE) (hI w hw)
theorem TX.cut {e : Exit} (E' : Env) (I' : World -> Prop) (hE : Has E E') (hI : ∀ w, I w -> I' w) (h : TX N Q e E' I') : TX N Q e E I := fun a w ha hw => h a w (ha.of_list hE) (hI w hw)
end
section
variable {P : Program} {N : Fr} {Q : Exit -> Act -> World -> Prop} {E : Env} {w0 : Base} {L : List Pc} {ops : Array Oper} {l : List Oper} {o : Oper} {xt : TypeId} {k k' : IntKind} {m n : Int}
theorem Kje (w : World) : (binOp .sub xt (.int k m) (.int k n)).run P w = .ok (.int k (k.wrap (m - n))) w := by simp [binOp, go_sem]
theorem KlR (w : World) : (binOp .mul xt (.int k m) (.int k n)).run P w = .ok (.int k (k.wrap (m * n))) w := by simp [binOp, go_sem]
theorem Ka8 (w : World) : (binOp .leq xt (.int k m) (.int k n)).run P w = .ok (.bool (decide (m <= n))) w := by simp [binOp, go_sem]
theorem KP (w : World) : (binOp .gtr xt (.int k m) (.int k n)).run P w = .ok (.bool (decide (m > n))) w := by simp [binOp, go_sem]
theorem Ka1 (w : World) : (binOp .geq xt (.int k m) (.int k n)).run P w = .ok (.bool (decide (m >= n))) w := by simp [binOp, go_sem]
theorem Kab (w : World) : (binOp .eql xt (.int k m) (.int k n)).run P w = .ok (.bool (decide (m = n))) w := by
  have : (m == n) = decide (m = n) := by by_cases h : m = n <;> simp [h]
  simp [binOp, go_sem, this]
theorem K1 (w : World) : (binOp .neq xt (.int k m) (.int k n)).run P w = .ok (.bool (decide (m ≠ n))) w := by
  have : (m != n) = decide (m ≠ n) := by by_cases h : m = n <;> simp [h]
  simp only [binOp, go_sem, this];simp [go_sem, this]
theorem KhR (q : Int) (h0 : 0 <= n) (h1 : n <= k.bits) (hq : (2 : Int) ^ n.toNat = q) (w : World) : (binOp .shr xt (.int k m) (.int k' n)).run P w = .ok (.int k (m / q)) w := by
  subst hq;have h2 := shift_shr k k' m n h0 h1;show (Op.shift .shr k m k' n).run P w = _;rw [h2]; rfl
theorem Key (q : Int) (h0 : 0 <= n) (h1 : n <= k.bits) (hq : (2 : Int) ^ n.toNat = q) (w : World) : (binOp .shl xt (.int k m) (.int k' n)).run P w = .ok (.int k (k.wrap (m * q))) w := by
  subst hq;show (Op.shift .shl k m k' n).run P w = _;unfold Op.shift;rw [if_neg (by omega)];have : min n.toNat k.bits = n.toNat := by omega
  rw [this]; rfl
theorem Kgm {t u : TypeId} (hu : P.underlying u = some (.int k')) {d : TypeDesc} (ht : P.underlying t = some d) (w : World) : (convert t u (.int k m)).run P w = .ok (.int k' (k'.wrap m)) w := by
  simp [convert, run_underlying hu, run_underlying ht, go_sem]
theorem K2 {r : Int} (h : k.wrap (m - n) = r) (w : World) : (binOp .sub xt (.int k m) (.int k n)).run P w = .ok (.int k r) w := h ▸ Kje w
theorem Kcz {r : Int} (h : k.wrap (m + n) = r) (w : World) : (binOp .add xt (.int k m) (.int k n)).run P w = .ok (.int k r) w := h ▸ Kjn w
theorem KgN {r : Int} (h : k.wrap (m * n) = r) (w : World) : (binOp .mul xt (.int k m) (.int k n)).run P w = .ok (.int k r) w := h ▸ KlR w
theorem Kbh {t u : TypeId} (hu : P.underlying u = some (.int k')) {d : TypeDesc} (ht : P.underlying t = some d) (h : k'.wrap m = m) (w : World) : (convert t u (.int k m)).run P w = .ok (.int k' m) w := by
  have := Kgm (k := k) (m := m) hu ht w;rwa [h] at this
theorem Kh9 {t : TypeId} {x lo hi : Operand} {vx vl vh v : Value} {I : World -> Prop} (ho : o.op = .slice t x (some lo) (some hi) none) (hx : ev E x = some vx) (hl : ev E lo = some vl) (hh : ev E hi = some vh) (hv : ∀ w : World, (Instr.sliceAt t vx (some vl) (some vh) none).run P w = .ok v w) : Kl P N o E I v := fun a w ha _ => by
  unfold execOp; rw [ho];simp only [Option.map_some, Option.map_none, ha.eval hx, ha.eval hl, ha.eval hh, Sem.run_bind, hv, Result.andThen_ok, Sem.run_pure]
theorem KjA {t : TypeId} {size : Nat} (ht : P.underlying t = some (.slice (P.elem t))) (hs : ∀ w : World, (sizeOf (P.elem t)).run P w = .ok size w) (A : Option Addr) (n c lo hi : Nat) {a b : Int} (ha : a = (lo : Int)) (hb : b = (hi : Int)) (h : lo <= hi) (h2 : hi <= c) (w : World) :
    (Instr.sliceAt t (.slice A n c) (some (.int .i64 a)) (some (.int .i64 b)) none).run P w = .ok (.slice (if c = lo then A else A.map (·.add (lo * size))) (hi - lo) (c - lo)) w := by
  subst ha hb;rw [run_sliceAt_slice w t _ _ _ _ ht, run_slice_lh w t A n c ht .i64 .i64 lo ((hi : Nat) : Int) (by omega) (by omega) (by omega)];simp only [hs, Result.andThen, sliced, Int.toNat_natCast]
theorem Pm.tail {w : World} {p : Pc} (h : Pm w0 (p :: L) w) : Pm w0 L w := ⟨h.bel, fun q hq => h.own q (List.mem_cons_of_mem _ hq), (List.pairwise_cons.1 h.apart).2, h.oth, h.low⟩
theorem Pm.nilrow {w : World} (h : Pm w0 L w) (e : TypeId) (size : Nat) : Pm w0 (.row (.slice none 0 0) e size 0 [] :: L) w :=
  h.add (Below.refl _ _) (World.ownsRow_nil w _ e size)
theorem TL.nilrow (e : TypeId) (size : Nat) (h : TL P N ops Q l E (Pm w0 (.row (.slice none 0 0) e size 0 [] :: L))) : TL P N ops Q l E (Pm w0 L) := fun a w ha hw => h a w ha (hw.nilrow e size)
theorem TC.nilrow {c : Code} (e : TypeId) (size : Nat) (h : TC P N Q c E (Pm w0 (.row (.slice none 0 0) e size 0 [] :: L))) : TC P N Q c E (Pm w0 L) := fun a w ha hw => h a w ha (hw.nilrow e size)
theorem TL.mem {I I' : World -> Prop} (hI : ∀ w, I w -> I' w) (h : TL P N ops Q l E I') : TL P N ops Q l E I := fun a w ha hw => h a w ha (hI w hw)
theorem TC.mem {c : Code} {I I' : World -> Prop} (hI : ∀ w, I w -> I' w) (h : TC P N Q c E I') : TC P N Q c E I := fun a w ha hw => h a w ha (hI w hw)
theorem KL {w : World} {k : Nat} {A : Option Addr} {e : TypeId} {size n c : Nat} {xs : List Value} (h : Pm w0 L w) (hk : L[k]? = some (.row (.slice A n c) e size n xs)) : ∃ B, Kd w B size A n xs := ⟨_, Kd.of_own (h.at_ hk)⟩
end
def TH (P : Program) (N : Fr) (ops : Array Oper) (S : World -> Prop) (Q : Exit -> Act -> World -> Prop) (f : Nat) (listed : Array Bool) (E : Env) (I : World -> Prop) : Prop :=
  ∀ a w, EnvOk N E a -> I w -> wpAnyH P .any ops (NoPanic Q) S f listed a w
section
variable {P : Program} {N : Fr} {Q : Exit -> Act -> World -> Prop} {E : Env} {I S : World -> Prop} {ops : Array Oper} {f : Nat} {listed : Array Bool}
theorem TC.held {id : Nat} {l : List Oper} {ls : Array Bool} {n : Nat} (S : World -> Prop) (hm : P.follows .mixedOrders = true) (hn : l.toArray.size = n) (hls : Array.replicate n false = ls) (hI : ∀ w, I w -> I { w with drawn := w.drawn + 1 })
    (h : TH P N l.toArray S Q n ls E I) : TC P N Q (.region id l.toArray true) E I := fun a w ha hw => by
  subst hn hls;exact wp_region_noPanic (wp_region_held (S := S) hm (h a _ ha (hI w hw)))
theorem TH.take {o : Oper} {d : Nat} {v : Value} {listed' : Array Bool} (i : Nat) (hi : ops[i]? = some o) (hs : Region.noSelect ops = true) (hf : Region.free .any ops listed i = true) (hr : (Region.ready .any ops listed).contains i = true) (hl : listed.setIfInBounds i true = listed')
    (hg : o.guard = none) (hd : o.dst = some d) (hN : Nat.blt d N.n = true) (hv : Kl P N o E S v) (hS : ∀ w, I w -> S w)
    (h : TH P N ops S Q f listed' ((d, v) :: E) I) : TH P N ops S Q (f + 1) listed E I := fun a w ha hw => by
  subst hl;refine wpAnyH_take hi hs hf hr (fun c a w h => h) (v := v) (.inl ⟨by simp [Region.wanted, hg], fun w' hw' => hv a w' ha hw'⟩) (hS w hw) ?_;have := h (a.put o.dst v) w (hd ▸ ha.put d v (by simpa [Nat.blt_eq] using hN)) hw;exact this
def Hd (P : Program) (ops : Array Oper) (S : World -> Prop) (Q : Exit -> Act -> World -> Prop) (f : Nat) (listed : Array Bool) : Act -> World -> Prop := fun a w => S w /\ wpAnyH P .any ops (NoPanic Q) S f listed a w
theorem TX.held (hS : ∀ w, I w -> S w) (h : TH P N ops S Q f listed E I) : TX N (Exit.then (Hd P ops S Q f listed) (NoPanic Q)) .normal E I := fun a w ha hw => ⟨hS w hw, h a w ha hw⟩
theorem KdU {o : Oper} {i : Nat} {K : Act -> World -> Prop} {a : Act} {w : World} (hi : ops[i]? = some o) (hg : o.guard = none) (h : wpList P ops (Exit.then K (NoPanic Q)) [o] a w) : wpOp P ops (NoPanic Q) i K a w := by
  unfold wpOp;simp only [hi];unfold wpList at h;have hw : Region.wanted o (yielded ops a.tmps) = true := by simp [Region.wanted, hg]
  simp only [hw, if_true] at h ⊢;rcases h with h | ⟨h1, h2⟩
  · refine .inl ?_;unfold Oper.wp at h ⊢;generalize (execOp a.eval o).run P w = r at *
    cases r with
    | ok n w' => cases n <;> exact h
    | halt x w' => cases x <;> exact h
  · exact .inr ⟨h1, h2⟩
theorem TH.only {o : Oper} {listed' : Array Bool} (i : Nat) (hi : ops[i]? = some o) (hr : Region.ready .any ops listed = [i]) (hl : listed.setIfInBounds i true = listed') (hg : o.guard = none)
    (h : TL P N ops (Exit.then (Hd P ops S Q f listed') (NoPanic Q)) [o] E I) : TH P N ops S Q (f + 1) listed E I := fun a w ha hw => by
  subst hl;refine wpAnyH_all hr (by simp) fun j hj => ?_;have : j = i := by simpa using hj
  subst this;exact KdU hi hg (h a w ha hw)
theorem TH.done (hr : Region.ready .any ops listed = []) (h : TX N Q .normal E I) : TH P N ops S Q f listed E I := fun a w ha hw => wpAnyH_done (Q := NoPanic Q) hr (NoPanic.normal (h a w ha hw)) f
theorem Pm.sel {w0 : Base} {w : World} {L L' : List Pc} (h : Pm w0 L w) (hs : L'.Sublist L) : Pm w0 L' w := ⟨h.bel, fun q hq => h.own q (hs.subset hq), h.apart.sublist hs, h.oth, h.low⟩
end
section
variable {P : Program} (w : World)
theorem Kei (m : Nat) (h : m <= maxLen) : IntKind.i64.wrap (m : Int) = (m : Int) := by
 have : m <= 9223372036854775807 := by simp only [maxLen] at h; omega
 simp only [IntKind.wrap_i64]; omega
theorem Kfr (t u ty e : TypeId) (i : TypeInfo) (ht : P.underlying t = some (.slice e)) (hu : P.underlying u = some (.int .i64)) (hi : P.info? e = some i) (z : Value) (hz : i.zero = some z)
  (b : Option Addr) (sLen sCap : Nat) (h : sLen <= sCap) (hb : b = none \/ ∃ g cur, b = some ⟨g, 0, none⟩ /\ w.heap[g]? = some (.cells cur e (0, 0))) :
  (Builtin.append_ #[t, u] ty #[.slice b sLen sCap, .int .i64 0]).run P w = .ok (.slice b sLen sCap) w := by
 have h0 : IntKind.i64.wrap 0 = 0 := rfl;have h1 : ¬ ((0 : Int) > 2 ^ 48) := by decide
 cases b with
 | none => simp [Builtin.append_, run_underlying ht, run_underlying hu, sizeOf, typeInfo, zeroValue, hi, hz, h0, h1, h, go_sem]
 | some a => simp [Builtin.append_, run_underlying ht, run_underlying hu, sizeOf, typeInfo, zeroValue, hi, hz, h0, h1, h, storeCells, go_sem]
theorem Kjd (t u ty e : TypeId) (i : TypeInfo) (ht : P.underlying t = some (.slice e)) (hu : P.underlying u = some (.int .i64)) (hi : P.info? e = some i) (z : Value) (hz : i.zero = some z) (hsz : 0 < i.size)
  (m : Nat) (hm : 0 < m) (h63 : m <= maxLen) (h48 : m * i.bytes <= 140737488355328) :
  (Builtin.append_ #[t, u] ty #[.slice none 0 0, .int .i64 (m : Int)]).run P w =
   .ok (.slice (some ⟨w.heap.size, 0, none⟩) m (grownCap w m 0 e)) (w.drew.alloc (.cells (Builtin.zeroCells z.cells m ++ Builtin.zeroCells z.cells (grownCap w m 0 e - m)) e)) := by
 have hw := Kei m h63;have h63' : ¬ (9223372036854775807 < (m : Int)) := by simp only [maxLen] at h63; omega
 have h2 : ((m : Int) * (i.bytes : Int)) = ((m * i.bytes : Nat) : Int) := by simp
 have h48' : ¬ (281474976710656 < (m : Int) * (i.bytes : Int)) := by rw [h2]; omega
 have h3 : ¬ (281474976710656 < Builtin.nextslicecap m 0 * i.bytes) := by rw [nextslicecap_zero hm]; omega
 have hn : m ≠ 0 := by omega
 have hs : i.size ≠ 0 := by omega
 have hneg : ¬ ((m : Int) < 0) := by omega
 have hms : m * i.size ≠ 0 := Nat.mul_ne_zero hn hs;have has : (asInt (.int .i64 (m : Int)) : Sem Int) = pure (m : Int) := rfl;simp [Builtin.append_, run_underlying ht, run_underlying hu, sizeOf, typeInfo, zeroValue, hi, hz, hw, hms, hn, hs, has, h63', h48', h3, hneg, Question.forced, newRow, grownCap, Builtin.firstCells]
theorem KjC (t u ty e : TypeId) (i : TypeInfo) (ht : P.underlying t = some (.slice e)) (hu : P.underlying u = some (.int .i64)) (hi : P.info? e = some i) (z : Value) (hz : i.zero = some z) (hsz : 0 < i.size) (hzs : z.cells.size = i.size) (hz1 : ∀ v ∈ (Builtin.zeroCells z.cells 1).toList, v.oneCell' = true)
  (g sLen sCap : Nat) (cur : Array Value) (hg : w.heap[g]? = some (.cells cur e (0, 0))) (m : Nat) (hm : 0 < m) (h63 : m <= maxLen) (h48 : m * i.bytes <= 140737488355328) (h1 : ∀ v ∈ (Builtin.zeroCells z.cells m).toList, v.oneCell' = true)
  (hroom : sLen + m <= sCap) (hfit : sLen * i.size + m * i.size <= cur.size) :
  (Builtin.append_ #[t, u] ty #[.slice (some ⟨g, 0, none⟩) sLen sCap, .int .i64 (m : Int)]).run P w =
   .ok (.slice (some ⟨g, 0, none⟩) (sLen + m) sCap) (w.setRow g (cur.toList.take (sLen * i.size) ++ (Builtin.zeroCells z.cells m).toList ++ cur.toList.drop (sLen * i.size + (Builtin.zeroCells z.cells m).toList.length)).toArray) := by
 have hw := Kei m h63;have h2 : ((m : Int) * (i.bytes : Int)) = ((m * i.bytes : Nat) : Int) := by simp
 have h48' : ¬ (281474976710656 < (m : Int) * (i.bytes : Int)) := by rw [h2]; omega
 have hn : m ≠ 0 := by omega
 have hs : i.size ≠ 0 := by omega
 have hneg : ¬ ((m : Int) < 0) := by omega
 have hms : m * i.size ≠ 0 := Nat.mul_ne_zero hn hs;have has : (asInt (.int .i64 (m : Int)) : Sem Int) = pure (m : Int) := rfl;have hst := run_storeCells_at P g (sLen * i.size) e (Builtin.zeroCells z.cells m).toList 0 cur w hg (by simp [size_zeroCells, hzs]; omega) h1;simp only [Nat.add_zero] at hst;simp [Builtin.append_, run_underlying ht, run_underlying hu, sizeOf, typeInfo, zeroValue, hi, hz, hw, hms, hn, hs, has, h48', hneg, hroom, Addr.add_lit, hst]
theorem Kh6 (t u ty e : TypeId) (i : TypeInfo) (ht : P.underlying t = some (.slice e)) (hu : P.underlying u = some (.int .i64)) (hi : P.info? e = some i) (z : Value) (hz : i.zero = some z) (hsz : 0 < i.size)
  (b : Addr) (sLen sCap : Nat) (olds : List Value) (hlo : olds.length = sLen * i.size) (holds : ∀ j v, olds[j]? = some v -> w.cell? (b.add j) = some v) (m : Nat) (hm : 0 < m) (h63 : sLen + m <= maxLen) (h48 : (sLen + m) * i.bytes <= 140737488355328) (hg : sCap < sLen + m) :
  (Builtin.append_ #[t, u] ty #[.slice (some b) sLen sCap, .int .i64 (m : Int)]).run P w =
   .ok (.slice (some ⟨w.heap.size, 0, none⟩) (sLen + m) (grownCap w (sLen + m) sCap e)) (w.drew.alloc (.cells (olds.toArray ++ Builtin.zeroCells z.cells m ++ Builtin.zeroCells z.cells (grownCap w (sLen + m) sCap e - (sLen + m))) e)) := by
 have hw := Kei m (by omega);have h63' : ¬ (9223372036854775807 < ((sLen : Int) + (m : Int))) := by simp only [maxLen] at h63; omega
 have h2 : ((m : Int) * (i.bytes : Int)) = ((m * i.bytes : Nat) : Int) := by simp
 have hle : m * i.bytes <= (sLen + m) * i.bytes := Nat.mul_le_mul_right _ (by omega);have h48' : ¬ (281474976710656 < (m : Int) * (i.bytes : Int)) := by rw [h2]; omega
 have h3 : ¬ (281474976710656 < Builtin.nextslicecap (sLen + m) sCap * i.bytes) := by
  have := growslice_fits (bytes := i.bytes) (old := sCap) (need := sLen + m) (by omega) h48;omega
 have hn : m ≠ 0 := by omega
 have hs : i.size ≠ 0 := by omega
 have hneg : ¬ ((m : Int) < 0) := by omega
 have hms : m * i.size ≠ 0 := Nat.mul_ne_zero hn hs;have has : (asInt (.int .i64 (m : Int)) : Sem Int) = pure (m : Int) := rfl;have hr : ¬ (sLen + m <= sCap) := by omega
 have hfo := run_firstCells_some (P := P) w.drew i.size sLen b sLen sCap olds hlo (by simpa using holds);simp [Builtin.append_, run_underlying ht, run_underlying hu, sizeOf, typeInfo, zeroValue, hi, hz, hw, hms, hn, hs, has, h63', h48', h3, hneg, hr, hfo, Question.forced, newRow, grownCap]
theorem Kjb (base : Nat) (t u ty e : TypeId) (i : TypeInfo) (z : Value) (size bytes : Nat) (ht : P.underlying t = some (.slice e)) (hu : P.underlying u = some (.int .i64)) (hi : P.info? e = some i) (hz : i.zero = some z)
  (hsize : i.size = size) (hby : i.bytes = bytes) (hzs : z.cells.size = size) (hsz : 0 < size) (hz1 : ∀ k, ∀ v ∈ (Builtin.zeroCells z.cells k).toList, v.oneCell' = true)
  (v : Value) (n : Nat) (xs : List Value) (hown : w.ownsRow base e size v n xs) (m : Nat)
  (h63 : n + m <= maxLen) (hbytes : (n + m) * bytes <= 140737488355328) (hbase : base <= w.heap.size) :
  ∃ v' w', (Builtin.append_ #[t, u] ty #[v, .int .i64 (m : Int)]).run P w = .ok v' w' /\ w'.ownsRow base e size v' (n + m) (xs ++ (Builtin.zeroCells z.cells m).toList) /\ w.grownBy w' v.ownBlock /\
   (v'.ownBlock = v.ownBlock \/ v'.ownBlock = some w.heap.size) := by
 subst hsize;subst hby;have hl : (Builtin.zeroCells z.cells m).toList.length = m * i.size := by simp [size_zeroCells, hzs]
 have hlen : (xs ++ (Builtin.zeroCells z.cells m).toList).length = (n + m) * i.size := by rw [List.length_append, hown.1, hl, Nat.add_mul]
 have hmb : m * i.bytes <= (n + m) * i.bytes := Nat.mul_le_mul_right _ (by omega)
 have grown : ∀ (old : Nat), old < n + m -> ∀ (row : Option Nat),
   (w.drew.alloc (.cells (xs.toArray ++ Builtin.zeroCells z.cells m ++ Builtin.zeroCells z.cells (grownCap w (n + m) old e - (n + m))) e)).ownsRow base e i.size
    (.slice (some ⟨w.heap.size, 0, none⟩) (n + m) (grownCap w (n + m) old e)) (n + m) (xs ++ (Builtin.zeroCells z.cells m).toList) /\
   w.grownBy (w.drew.alloc (.cells (xs.toArray ++ Builtin.zeroCells z.cells m ++ Builtin.zeroCells z.cells (grownCap w (n + m) old e - (n + m))) e)) row := by
  intro old ho row;have hge := grownCap_ge w (n + m) old e;have hcm : grownCap w (n + m) old e <= maxLen := grownCap_le_maxLen w (n + m) old e h63;refine ⟨⟨hlen, .inr ⟨w.heap.size, _, _, rfl, hbase, heap_alloc_new w.drew _, hge, hcm, ?_, ?_⟩⟩, ⟨rfl, rfl, rfl, by simp, fun k hk _ => Below.heap_alloc w.drew _ k hk⟩⟩
  ·simp only [Array.size_append, List.size_toArray, size_zeroCells, hzs, hown.1, <- Nat.add_mul]
   congr 1
   omega
  ·simp only [Array.toList_append, List.append_assoc];rw [<- List.append_assoc, <- hlen];exact List.take_left
 rcases hown.2 with ⟨rfl, rfl⟩ | ⟨g, cap, cur, rfl, hbg, hg, hnc, hcm, hcs, htake⟩
 ·have hx : xs = [] := List.eq_nil_of_length_eq_zero (by simpa using hown.1);subst hx;by_cases hm : m = 0
  ·subst hm;refine ⟨.slice none 0 0, w, Kfr w t u ty e i ht hu hi z hz none 0 0 (Nat.le_refl _) (.inl rfl), ?_, World.grownBy.refl w _, .inl rfl⟩;have : (Builtin.zeroCells z.cells 0).toList = [] := by simp [Builtin.zeroCells]
   rw [this];exact World.ownsRow_nil w base e i.size
  ·have hr := Kjd w t u ty e i ht hu hi z hz hsz m (by omega) (by omega) (by omega);have hgr := grown 0 (by omega) (Value.ownBlock (.slice none 0 0));simp only [Nat.zero_add, List.nil_append, Array.empty_append] at hgr ⊢;exact ⟨_, _, hr, hgr.1, hgr.2, .inr rfl⟩
 ·by_cases hm : m = 0
  ·subst hm;refine ⟨_, w, Kfr w t u ty e i ht hu hi z hz _ n cap hnc (.inr ⟨g, cur, rfl, hg⟩), ?_, World.grownBy.refl w _, .inl rfl⟩;have : (Builtin.zeroCells z.cells 0).toList = [] := by simp [Builtin.zeroCells]
   rw [this, List.append_nil];exact hown
  ·by_cases hroom : n + m <= cap
   ·have hfit : n * i.size + m * i.size <= cur.size := by rw [hcs, <- Nat.add_mul]; exact Nat.mul_le_mul_right _ hroom
    have hr := KjC w t u ty e i ht hu hi z hz hsz hzs (hz1 1) g n cap cur hg m (by omega) (by omega) (by omega) (hz1 m) hroom hfit;refine ⟨_, _, hr, ⟨hlen, .inr ⟨g, cap, _, rfl, hbg, setRow_heap w g cur _ e _ hg, hroom, hcm, ?_, ?_⟩⟩, ⟨rfl, rfl, rfl, by simp, fun k _ hk => setRow_other w g k _ (fun e => hk (by simp [Value.ownBlock, e]))⟩, .inl rfl⟩
    ·simp only [List.size_toArray, List.length_append, List.length_take, List.length_drop, Array.length_toList, hl];omega
    ·rw [htake, <- hlen];exact List.take_left
   ·have holds : ∀ j u, xs[j]? = some u -> w.cell? ((⟨g, 0, none⟩ : Addr).add j) = some u := hown.cells (g := g) rfl;have hr := Kh6 w t u ty e i ht hu hi z hz hsz ⟨g, 0, none⟩ n cap xs hown.1 holds m (by omega) h63 hbytes (by omega);have hgr := grown cap (by omega) (Value.ownBlock (.slice (some ⟨g, 0, none⟩) n cap));exact ⟨_, _, hr, hgr.1, hgr.2, .inr rfl⟩
end
section
variable {P : Program} {N : Fr} {Q : Exit -> Act -> World -> Prop} {E : Env} {w0 : Base} {L : List Pc} {ops : Array Oper} {l : List Oper} {o : Oper} {I : World -> Prop}
theorem TL.zeros {d k : Nat} {s x : Operand} {t u e : TypeId} {size bytes n c m : Nat} {A0 : Option Addr} {olds zs : List Value} {z : Value} (hg : o.guard = none) (hd : o.dst = some d) (hN : Nat.blt d N.n = true)
  (ho : o.op = .call { callee := .builtin .append, args := #[s, x], argTypes := #[t, u] }) (hE : Elem P t e size bytes) (hu : P.underlying u = some (.int .i64)) (hs : ev E s = some (.slice A0 n c)) (hx : ev E x = some (.int .i64 (m : Int)))
  (hk : L[k]? = some (.row (.slice A0 n c) e size n olds)) (hzv : (P.info? e).map (·.zero) = some (some z)) (hzs : (Builtin.zeroCells z.cells m).toList = zs) (h1 : ∀ k, ∀ u ∈ (Builtin.zeroCells z.cells k).toList, u.oneCell' = true) (hlim : (n + m) * bytes <= 140737488355328) (M : Nat) (hM : M = n + m)
  (h : ∀ A' c', M <= c' -> c' <= maxLen -> TL P N ops Q l ((d, .slice A' M c') :: E) (Pm w0 (L.set k (.row (.slice A' M c') e size M (olds ++ zs))))) : TL P N ops Q (o :: l) E (Pm w0 L) := by
 subst hM hzs;refine TL.run (α := { p : Option Addr × Nat // n + m <= p.2 /\ p.2 <= maxLen }) (r := fun p => .slice p.1.1 (n + m) p.1.2) (I' := fun p => Pm w0 (L.set k (.row (.slice p.1.1 (n + m) p.1.2) e size (n + m) (olds ++ (Builtin.zeroCells z.cells m).toList)))) hg hd hN (fun a w ha hw => ?_) (fun p => h p.1.1 p.1.2 p.2.1 p.2.2);obtain ⟨i, z', hi, hz, hsz, hby, hzs⟩ := hE.info
 have hzz : z' = z := by
  rw [hi] at hzv;simp only [Option.map_some, Option.some.injEq] at hzv;rw [hz] at hzv
  injection hzv
 subst hzz
 have hmx : n + m <= maxLen := by
  have : n + m <= (n + m) * bytes := Nat.le_mul_of_pos_right _ hE.big;unfold maxLen; omega
 obtain ⟨v', w', hrun, hown', hgr, hkey⟩ := Kjb w w0.b t u o.type e i z' size bytes hE.und hu hi hz hsz hby hzs hE.pos h1 _ n olds (hw.at_ hk) m hmx hlim hw.base;obtain ⟨A', c', rfl, hc1, hc2⟩ := KdZ hown';refine ⟨⟨(A', c'), hc1, hc2⟩, w', ?_, hw.turn hk hgr hown' (fun g hg => ?_) (fun k o e => ?_)⟩
 ·unfold execOp; rw [ho];simp only [resolve, invoke, builtin, Sem.run_bind, Sem.run_pure, Result.andThen_ok, List.map_toArray, List.map_cons, List.map_nil, ha.eval hs, ha.eval hx, hrun]
 ·rcases hkey with hkey | hkey
  ·exact .inl (hkey.symm.trans hg)
  ·right
   have : (Value.slice A' (n + m) c').ownBlock = some g := hg;rw [hkey] at this
   injection this with this
   omega
 ·cases e
theorem KlO {a : Act} (ha : EnvOk N E a) {j d : Nat} {b : Bool} (hd : (ops[j]?).bind (·.dst) = some d) (hE : look E d = some (.bool b)) : yielded ops a.tmps j = some b := by
 have := ha.slot d _ hE;simp [yielded, hd, this]
theorem Kcp {a : Act} (ha : EnvOk N E a) {j d : Nat} {b b' : Bool} (hg : o.guard = some (j, b')) (hd : (ops[j]?).bind (·.dst) = some d) (hE : look E d = some (.bool b)) : Region.wanted o (yielded ops a.tmps) = (b == b') := by
 have := KlO ha hd hE;unfold Region.wanted;rw [hg];simp [this]
theorem TL.on {j d : Nat} {b : Bool} (hg : o.guard = some (j, b)) (hd : (ops[j]?).bind (·.dst) = some d) (hE : look E d = some (.bool b)) (h : TL P N ops Q ({ o with guard := none } :: l) E I) : TL P N ops Q (o :: l) E I := fun a w ha hw => by
 have hw1 := Kcp ha hg hd hE;have := h a w ha hw;unfold wpList at this ⊢;rw [if_pos (by simp [Region.wanted])] at this;rw [if_pos (by simp [hw1])];exact this
theorem TL.off {j d t : Nat} {b b' : Bool} (hg : o.guard = some (j, b')) (hd : (ops[j]?).bind (·.dst) = some d) (hE : look E d = some (.bool b)) (hne : (b == b') = false) (ht : o.dst = some t) (hN : Nat.blt t N.n = true) (h : TL P N ops Q l ((t, undef) :: E) I) : TL P N ops Q (o :: l) E I := fun a w ha hw => by
 have hw1 := Kcp ha hg hd hE;unfold wpList;rw [if_neg (by rw [hw1, hne]; decide), ht];exact h _ _ (ha.put t undef (by simpa [Nat.blt_eq] using hN)) hw
theorem TL.offU {j d t : Nat} {b' : Bool} (hg : o.guard = some (j, b')) (hd : (ops[j]?).bind (·.dst) = some d) (hE : look E d = some undef) (ht : o.dst = some t) (hN : Nat.blt t N.n = true) (h : TL P N ops Q l ((t, undef) :: E) I) : TL P N ops Q (o :: l) E I := fun a w ha hw => by
 have h1 : yielded ops a.tmps j = none := by
  have := ha.slot d _ hE;simp [yielded, hd, this, undef]
 have hw1 : Region.wanted o (yielded ops a.tmps) = false := by
  unfold Region.wanted;rw [hg];simp [h1]
 unfold wpList;rw [if_neg (by rw [hw1]; decide), ht];exact h _ _ (ha.put t undef (by simpa [Nat.blt_eq] using hN)) hw
theorem KcP {c x y : Operand} {I : World -> Prop} {b : Bool} {v : Value} (ho : o.op = .pick c x y) (hc : ev E c = some (.bool b)) (hv : (if b then ev E x else ev E y) = some v) : Kl P N o E I v := fun a w ha _ => by
 unfold execOp; rw [ho];simp only [ha.eval hc]
 cases b with
 | true =>
  have h2 : a.eval x = v := ha.eval (by simpa using hv);rw [<- h2]; rfl
 | false =>
  have h2 : a.eval y = v := ha.eval (by simpa using hv);rw [<- h2]; rfl
theorem KaZ {xt : TypeId} {x : Operand} {I : World -> Prop} {b : Bool} (ho : o.op = .unOp .not xt x) (hx : ev E x = some (.bool b)) : Kl P N o E I (.bool (!b)) := fun a w ha _ => by
 unfold execOp; rw [ho];simp only [ha.eval hx];simp [Op.unary, go_sem]
end
section
variable {P : Program} {N : Fr} {Q : Exit -> Act -> World -> Prop} {E : Env} {w0 : Base} {L : List Pc} {ops : Array Oper} {l : List Oper} {o : Oper}
end
theorem KkM {α : Type} (xs vs : List α) (off m : Nat) (h : off + vs.length <= m) (hm : m <= xs.length) : (xs.take off ++ vs ++ xs.drop (off + vs.length)).take m = (xs.take m).take off ++ vs ++ (xs.take m).drop (off + vs.length) := by
  refine List.ext_getElem? fun i => ?_;have hl1 : (xs.take off).length = off := by simp; omega
  have hl2 : ((xs.take m).take off).length = off := by simp; omega
  simp only [List.getElem?_take, List.append_assoc, List.getElem?_append, hl1, hl2, List.getElem?_drop];split <;> split <;> (try split) <;> (try split) <;> first | rfl | omega | (simp only [List.getElem?_take]; split <;> first | rfl | omega) | (simp; omega)
section
variable {P : Program} {N : Fr} {Q : Exit -> Act -> World -> Prop} {E : Env} {w0 : Base} {L : List Pc} {ops : Array Oper} {l : List Oper} {o : Oper}
theorem KdR {w : World} {B g n c size off : Nat} {e : TypeId} {xs vs : List Value} (h : w.ownsRow B e size (.slice (some ⟨g, 0, none⟩) n c) n xs) (hl : off + vs.length <= xs.length) :
    (∃ cur : Array Value, w.heap[g]? = some (.cells cur e (0, 0)) /\ off + vs.length <= cur.size /\ (w.setRow g (cur.toList.take off ++ vs ++ cur.toList.drop (off + vs.length)).toArray).ownsRow B e size (.slice (some ⟨g, 0, none⟩) n c) n (xs.take off ++ vs ++ xs.drop (off + vs.length))) := by
  obtain ⟨h1, h2⟩ := h;rcases h2 with ⟨e1, h2⟩ | ⟨g', cap, cur, a, hb, hg, hn, hm, hs, ht⟩
  · cases e1
  · cases a;have hle : n * size <= cur.size := by rw [hs]; exact Nat.mul_le_mul_right _ hn
    have hfit : off + vs.length <= n * size := by rw [h1] at hl; exact hl
    refine ⟨cur, hg, by omega, ⟨?_, .inr ⟨g, c, _, rfl, hb, setRow_heap w g cur _ e _ hg, hn, hm, ?_, ?_⟩⟩⟩
    · rw [<- h1]; simp; omega
    · rw [<- hs]; simp; omega
    · rw [<- ht];exact KkM _ _ _ _ hfit (by simpa using hle)
theorem TL.rowset {t e : TypeId} {x y : Operand} {g off k n c size : Nat} {v : Value} {xs vs : List Value} (hg : o.guard = none) (hd : o.dst = none) (ho : o.op = .store t x y) (hx : ev E x = some (.pointer (some ⟨g, off, none⟩))) (hy : ev E y = some v)
    (hk : L[k]? = some (.row (.slice (some ⟨g, 0, none⟩) n c) e size n xs)) (hv : v.cells = vs.toArray) (hs : ∀ w : World, (sizeOf t).run P w = .ok vs.length w) (h1 : ∀ u ∈ vs, u.oneCell' = true) (hl : off + vs.length <= xs.length) {xs' : List Value} (hL : xs.take off ++ vs ++ xs.drop (off + vs.length) = xs')
    (h : TL P N ops Q l E (Pm w0 (L.set k (.row (.slice (some ⟨g, 0, none⟩) n c) e size n xs')))) : TL P N ops Q (o :: l) E (Pm w0 L) := fun a w ha hw =>
  wpList_plain hg fun K hK => by
    subst hL;obtain ⟨cur, hcur, hfit, hown⟩ := KdR (hw.at_ hk) hl
    have hrun : (execOp a.eval o).run P w = .ok .skip (w.setRow g (cur.toList.take off ++ vs ++ cur.toList.drop (off + vs.length)).toArray) := by
      unfold execOp; rw [ho];simp only [ha.eval hx, ha.eval hy];have hst := run_storeCells_at (P := P) g off e vs 0 cur w hcur (by simpa using hfit) h1;simp only [Nat.add_zero] at hst
      have hsv : (storeVar t ⟨g, off, none⟩ v).run P w = .ok () (w.setRow g (cur.toList.take off ++ vs ++ cur.toList.drop (off + vs.length)).toArray) := by
        unfold storeVar;simp only [Sem.run_bind, hs, Result.andThen_ok, hv]
        simpa [Result.andThen] using hst
      simp only [Instr.storeAt, Instr.sureAddr, Sem.run_bind, Sem.run_pure, Result.andThen_ok, hsv]
    unfold Oper.wp;rw [hrun];show K (a.put o.dst undef) _;rw [hd];exact hK _ _ (h _ _ (ha.put0 _) (hw.turn hk (Kc7 _ _) hown (fun g' hg' => .inl hg') (fun k o e => by cases e)))
theorem Kd7 {w : World} {k g n c i : Nat} {e : TypeId} {size : Nat} {xs : List Value} {v : Value} (h : Pm w0 L w) (hk : L[k]? = some (.row (.slice (some ⟨g, 0, none⟩) n c) e size n xs)) (hi : xs[i]? = some v) : w.cell? ⟨g, i, none⟩ = some v := by
  have := (h.at_ hk).cells (g := g) rfl i v hi;rw [<- this]
  congr 1
  unfold Addr.add; split <;> simp_all
theorem TL.rowhead {d k n c hi size : Nat} {t e : TypeId} {x y : Operand} {k2 : IntKind} {A : Option Addr} {xs xs' : List Value} (hg : o.guard = none) (hd : o.dst = some d) (hN : Nat.blt d N.n = true)
    (ho : o.op = .slice t x none (some y) none) (hx : ev E x = some (.slice A n c)) (hy : ev E y = some (.int k2 (hi : Int))) (ht : P.underlying t = some (.slice (P.elem t))) (hs : ∀ w : World, (sizeOf (P.elem t)).run P w = .ok size w)
    (hk : L[k]? = some (.row (.slice A n c) e size n xs)) (hh : hi <= n) (hc : n <= c) (hxs : xs.take (hi * size) = xs')
    (h : TL P N ops Q l ((d, .slice A hi c) :: E) (Pm w0 (L.set k (.row (.slice A hi c) e size hi xs')))) : TL P N ops Q (o :: l) E (Pm w0 L) := by
  subst hxs;refine TL.run (α := Unit) (r := fun _ => .slice A hi c) (I' := fun _ => Pm w0 (L.set k (.row (.slice A hi c) e size hi (xs.take (hi * size))))) hg hd hN (fun a w ha hw => ⟨(), w, ?_, ?_⟩) (fun _ => h)
  · have hrow := hw.at_ hk;unfold execOp; rw [ho];simp only [Option.map_some, Option.map_none, ha.eval hx, ha.eval hy, run_sliceAt_slice w t _ _ _ _ ht, run_slice_h w t A n c ht k2 (hi : Int) (by omega) (by omega), hs, Result.andThen_ok, Sem.run_bind, Sem.run_pure, sliced, Int.toNat_natCast, Nat.zero_mul, Nat.sub_zero];rcases hrow.2 with ⟨e1, h2⟩ | ⟨g, cap, cur, a1, r⟩
    · cases e1;have : hi = 0 := by omega
      subst this;simp
    · cases a1;by_cases hc0 : c = 0
      · simp [hc0]
      · rw [if_neg hc0];have : (⟨g, 0, none⟩ : Addr).add 0 = ⟨g, 0, none⟩ := by unfold Addr.add; split <;> simp_all
        rw [Option.map_some, this]
  · have hrow := hw.at_ hk;refine hw.turn hk (World.grownBy.refl w _) ?_ (fun g hg => .inl (by cases A <;> exact hg)) (fun _ _ e => by cases e);obtain ⟨h1, h2⟩ := hrow;refine ⟨?_, ?_⟩
    · rw [List.length_take, h1];exact Nat.min_eq_left (Nat.mul_le_mul_right _ hh)
    · rcases h2 with ⟨e1, h2⟩ | ⟨g, cap, cur, a1, hb, hgg, hn, hm, hs1, ht1⟩
      · cases e1;have : hi = 0 := by omega
        subst this;exact .inl ⟨rfl, rfl⟩
      · cases a1;refine .inr ⟨g, c, cur, rfl, hb, hgg, by omega, hm, hs1, ?_⟩;rw [<- ht1, List.take_take, Nat.min_eq_left (Nat.mul_le_mul_right _ hh)]
theorem KhE {s : Operand} {t e : TypeId} {A : Option Addr} {n c : Nat} {I : World -> Prop} (ho : o.op = .call { callee := .builtin .cap, args := #[s], argTypes := #[t] }) (ht : P.underlying t = some (.slice e)) (hs : ev E s = some (.slice A n c)) : Kl P N o E I (.int .i64 (c : Int)) := fun a w ha _ => by
  unfold execOp; rw [ho];simp only [resolve, invoke, builtin, Sem.run_bind, Sem.run_pure, Result.andThen_ok, List.map_toArray, List.map_cons, List.map_nil, ha.eval hs];simp [go_sem, Builtin.cap_, run_underlying ht]
theorem TC.join {α : Type} {x y : Code} {I : World -> Prop} (E' : α -> Env) (I' : α -> World -> Prop) (h : TC P N (Exit.then (fun a w => ∃ s, EnvOk N (E' s) a /\ I' s w) Q) x E I) (hy : ∀ s, TC P N Q y (E' s) (I' s)) : TC P N Q (.seq x y) E I :=
  TC.seq h fun a w ⟨s, h1, h2⟩ => hy s a w h1 h2
theorem TX.joined {α : Type} {I : World -> Prop} {E' : α -> Env} {I' : α -> World -> Prop} (s : α) (hE : Has E (E' s)) (hI : ∀ w, I w -> I' s w) : TX N (Exit.then (fun a w => ∃ s, EnvOk N (E' s) a /\ I' s w) Q) .normal E I := fun a w ha hw => ⟨s, ha.of_list hE, hI w hw⟩
theorem TX.nilrow {ex : Exit} (e : TypeId) (size : Nat) (h : TX N Q ex E (Pm w0 (.row (.slice none 0 0) e size 0 [] :: L))) : TX N Q ex E (Pm w0 L) := fun a w ha hw => h a w ha (hw.nilrow e size)
theorem Pm.swap {w : World} {p q : Pc} (h : Pm w0 (p :: q :: L) w) : Pm w0 (q :: p :: L) w := by
  refine ⟨h.bel, fun r hr => h.own r ?_, ?_, h.oth, h.low⟩
  · simp only [List.mem_cons] at hr ⊢;rcases hr with h | h | h
    · exact .inr (.inl h)
    · exact .inl h
    · exact .inr (.inr h)
  · have h1 := List.pairwise_cons.1 h.apart;have h2 := List.pairwise_cons.1 h1.2;refine List.Pairwise.cons (fun r hr => ?_) (List.Pairwise.cons (fun r hr => h1.1 r (List.mem_cons_of_mem _ hr)) h2.2);rcases List.mem_cons.1 hr with rfl | hr
    · exact fun g hg hgr => h1.1 q List.mem_cons_self g hgr hg
    · exact h2.1 r hr
theorem Kh1 (w : World) (g m : Nat) : w.grownBy (w.freeze ⟨g, m, none⟩ 1) (some g) := by
  unfold World.freeze;rw [if_neg (by decide)];refine ⟨rfl, rfl, rfl, by simp, fun k hk hne => ?_⟩;have : g ≠ k := fun e => hne (by rw [e]);simp [Array.getElem?_modify, this]
theorem TL.mark {d k g n : Nat} {t e e1 : TypeId} {x : Operand} {xs : List Value} (hg : o.guard = none) (hd : o.dst = some d) (hN : Nat.blt d N.n = true)
    (ho : o.op = .convert t t x) (hx : ev E x = some (.slice (some ⟨g, 0, none⟩) n n)) (ht : P.underlying t = some (.slice e1)) (he : P.underlying e1 = some (.int .u8))
    (hk : L[k]? = some (.row (.slice (some ⟨g, 0, none⟩) n n) e 1 n xs))
    (h : TL P N ops Q l ((d, .slice (some ⟨g, 0, none⟩) n n) :: E) (Pm w0 (L.set k (.oth g (.cells xs.toArray e (n, n + 1)))))) : TL P N ops Q (o :: l) E (Pm w0 L) := by
  refine TL.run (α := Unit) (r := fun _ => .slice (some ⟨g, 0, none⟩) n n) (I' := fun _ => Pm w0 (L.set k (.oth g (.cells xs.toArray e (n, n + 1))))) hg hd hN (fun a w ha hw => ?_) (fun _ => h);obtain ⟨h1, h2⟩ := hw.at_ hk;rcases h2 with ⟨e1, _⟩ | ⟨g', cap, cur, a1, hb, hgg, hn, hm, hs1, ht1⟩
  · cases e1
  · cases a1
    have hcur : cur = xs.toArray := by
      rw [<- Array.toList_inj, <- ht1, List.take_of_length_le (by simp; omega)]
    have hsz : cur.size = n := by omega
    rw [<- hcur]
    have hsh : w.shape? g = some (e, n) := by
      unfold World.shape?; rw [hgg];show some (e, cur.size) = some (e, n);rw [hsz]
    have hlt := (Array.getElem?_eq_some_iff.1 hgg).1;refine ⟨(), w.freeze ⟨g, n, none⟩ 1, ?_, hw.turn hk (Kh1 w g n) ⟨?_, hb⟩ (fun g' hg' => .inl hg') (fun _ _ e => by cases e)⟩
    · unfold execOp; rw [ho];simp only [ha.eval hx, Sem.run_bind, Sem.run_pure]
      have hc : (convert t t (.slice (some ⟨g, 0, none⟩) n n)).run P w = .ok (.slice (some ⟨g, 0, none⟩) n n) (w.freeze ⟨g, n, none⟩ 1) := by
        simp [convert, run_underlying ht, run_underlying he, markStringish, hsh]
      rw [hc]; rfl
    · unfold World.freeze;rw [if_neg (by decide)];simp [Array.getElem?_modify, hgg]
end
section
variable {P : Program} {N : Fr} {E : Env} {I : World -> Prop}
end
def Kga (l : List Oper) : Bool := l.all fun o => match o.op with
  | .defer _ => false
  | _ => true
theorem KiK {l : List Oper} (h : Kga l = true) : ∀ o ∈ l, ∀ c, o.op ≠ .defer c := fun o ho c e => by
  have := List.all_eq_true.1 h o ho;rw [e] at this;cases this
section
variable {P : Program} {Q : Exit -> Act -> World -> Prop}
theorem KhB {lr n : Nat} {ops : Array Oper} (hQ : LetsOut Q -> False) : ∀ (L : List Oper), (∀ o ∈ L, ∀ c, o.op ≠ .defer c) -> ∀ a w, wpList P ops Q L a w -> wpListIn (Fence.wide.inRound lr) n P ops Q L a w
  | [], _, a, w, h => h
  | o :: r, hd, a, w, h => by
    have ih := KhB (lr := lr) (n := n) (ops := ops) hQ r (fun o' ho' => hd o' (List.mem_cons_of_mem _ ho'));unfold wpList at h;unfold wpListIn;by_cases hw : Region.wanted o (yielded ops a.tmps) = true
    · rw [if_pos hw] at h ⊢;rcases h with h | h
      · refine ⟨fun f _ => trivial, ?_⟩;rw [Oper.semAt_eq _ _ _ (hd o List.mem_cons_self)];unfold Oper.wp at h;generalize (execOp a.eval o).run P w = res at h
        cases res with
        | ok x w' =>
          cases x with
          | value v => exact ih _ _ h
          | skip => exact ih _ _ h
          | defer d => exact ih _ _ h
          | enter f args =>
            refine ⟨fun h => (by cases h), CallsIn.inRound lr (callsIn_wide.2 (Calls.mono h fun e w'' q => ?_))⟩
            cases e with
            | returned v => exact ih _ _ q
            | panicked c => exact q
            | outgrown => exact q
          | row row args =>
            exact ⟨fun h => (by cases h), fun c cs hr => by
              obtain ⟨v, w'', q, st⟩ := h c cs;exact ⟨v, w'', ih _ _ q, stepsIn_wide.2 st⟩⟩
          | round => exact h.elim
          | _ => exact h.elim
        | halt x w' =>
          cases x with
          | panic v => exact h
          | _ => exact h.elim
      · exact (hQ h.2).elim
    · rw [if_neg hw] at h ⊢;exact ⟨fun f _ => trivial, ih _ _ h⟩
def TR (P : Program) (N : Fr) (lr n : Nat) (Q : Exit -> Act -> World -> Prop) (c : Code) (E : Env) (I : World -> Prop) : Prop := ∀ a w, EnvOk N E a -> I w -> c.wpIn (Fence.wide.inRound lr) n P Q a w
variable {N : Fr} {E : Env} {I : World -> Prop} {lr n : Nat}
theorem TR.region {id : Nat} {l : List Oper} (hQ : LetsOut Q -> False) (hd : Kga l = true) (h : TL P N l.toArray Q l E I) : TR P N lr n Q (.region id l.toArray false) E I := fun a w ha hw =>
  wpIn_region_lit (KhB hQ l (KiK hd) a w (h a w ha hw))
theorem TR.block {id : Nat} {c : Code} (h : TR P N lr n (Exit.inBlock id Q) c E I) : TR P N lr n Q (.block id c) E I := fun a w ha hw => wpIn_block (h a w ha hw)
end
section
variable {P : Program} {N : Fr} {E : Env} {Q : Exit -> Act -> World -> Prop} {w0 : Base}
theorem TC.fact {I : World -> Prop} {c : Code} {p : Prop} (hp : ∀ w, I w -> p) (h : p -> TC P N Q c E I) : TC P N Q c E I := fun a w ha hw => h (hp w hw) a w ha hw
theorem Pc.mono {b b' : Nat} {w : World} {p : Pc} (h : p.ok b w) (hb : b' <= b) (hna : p.isAbs = false) : p.ok b' w := by
  cases p with
  | blk g t cs => exact ⟨h.1, Nat.le_trans hb h.2⟩
  | row v e size n xs => exact Kfl h hb
  | oth k o => exact ⟨h.1, Nat.le_trans hb h.2⟩
  | abs g p => cases hna
theorem Ked {l : List Pc} (h : Kaw l = true) : ∀ p ∈ l, p.isAbs = false := fun p hp => by
  have := List.all_eq_true.1 h p hp
  simpa using this
theorem Pm.addAll {L L' : List Pc} {w w' : World} (h : Pm w0 L w) (h' : Pm w L' w') (hna : Kaw L' = true) : Pm w0 (L' ++ L) w' := by
  have h2 := h.below h'.bel;refine ⟨h2.bel, fun p hp => ?_, List.pairwise_append.2 ⟨h'.apart, h.apart, fun p hp q hq g hg hgq => ?_⟩, h2.oth, h.low⟩
  · rcases List.mem_append.1 hp with hp | hp
    · exact Pc.mono (h'.own p hp) h.base (Ked hna p hp)
    · exact h2.own p hp
  · have h1 := (Pc.lt (h'.own p hp) g hg).1;have h3 := (Pc.lt (h.own q hq) g hgq).2;have h4 : w.heap.size <= g := h1;omega
theorem TL.pcallPm {α : Type} {L : List Pc} {ops : Array Oper} {l : List Oper} {o : Oper} {d : Nat} {f : FuncId} {fn : Func} {xs : List Operand} {ts : Array TypeId} {vs : List Value} (r : α -> Value) (Ln : α -> List Pc) (hg : o.guard = none) (hd : o.dst = some d) (hN : Nat.blt d N.n = true)
    (ho : o.op = .call { callee := .value (.func f), args := xs.toArray, argTypes := ts }) (hx : evs E xs = some vs) (hf : P.funcs[f]? = some fn) (hn : (fn.name == "runtime.NumGoroutine") = false) (hb : fn.body.isNone = false)
    (hc : ∀ w, Pm w0 L w -> Calls P f vs.toArray w fun en w' => ∃ x, en = .returned (r x) /\ Pm w (Ln x) w')
    (h : ∀ x, TL P N ops Q l ((d, r x) :: E) (Pm w0 (Ln x ++ L))) (hna : ∀ x, Kaw (Ln x) = true := by intro x; rfl) : TL P N ops Q (o :: l) E (Pm w0 L) :=
  TL.call (α := α) (r := r) (I' := fun x => Pm w0 (Ln x ++ L)) hg hd hN ho hx hf hn hb (fun w hw => (hc w hw).mono fun en w' ⟨x, he, h2⟩ => ⟨x, he, hw.addAll h2 (hna x)⟩) h
end
def Kr (cb : Nat) (w : World) : List Pc := (List.range (w.heap.size - (cb + 1))).map fun i => .oth (cb + 1 + i) ((w.heap[cb + 1 + i]?).getD (.deferred none))
theorem KeK {cb k : Nat} {w : World} (h1 : cb < k) (h2 : k < w.heap.size) : ∃ o, w.heap[k]? = some o /\ Pc.oth k o ∈ Kr cb w := by
  refine ⟨w.heap[k], by simp [h2], List.mem_map.2 ⟨k - (cb + 1), List.mem_range.2 (by omega), ?_⟩⟩;rw [show cb + 1 + (k - (cb + 1)) = k by omega];simp [h2]
theorem KdY {cb : Nat} {w : World} {q : Pc} (h : q ∈ Kr cb w) : ∃ k o, q = .oth k o /\ cb < k /\ w.heap[k]? = some o := by
  obtain ⟨i, hi, rfl⟩ := List.mem_map.1 h;have hi := List.mem_range.1 hi;have hlt : cb + 1 + i < w.heap.size := by omega
  exact ⟨_, _, rfl, by omega, by simp [hlt]⟩
theorem Kfn (cb : Nat) (w : World) : (Kr cb w).Pairwise fun p q => ∀ g, p.key = some g -> q.key ≠ some g := by
  refine List.pairwise_map.2 (List.Pairwise.imp (fun hne g hg he => ?_) List.nodup_range);simp only [Pc.key, Option.some.injEq] at hg he;omega
def Kd2 (cb : Nat) (p : World -> Prop) : Prop := ∀ w1 w2 : World, p w1 -> (∀ k, k < cb \/ k = cb -> w2.heap[k]? = w1.heap[k]?) -> p w2
def KdM (w : World) (g : Nat) : Prop := ∃ o : Obj, w.heap[g]? = some o /\ o.isCells = true
theorem Pm.codes {w : World} {cb : Nat} {p : World -> Prop} (hp : p w) (hc : KdM w cb) (hst : Kd2 cb p) : Pm ⟨w, cb⟩ (.abs cb p :: Kr cb w) w := by
  have hlt : cb < w.heap.size := by obtain ⟨o, ho, _⟩ := hc; exact (Array.getElem?_eq_some_iff.1 ho).1
  refine ⟨Below.refl _ _, fun q hq => ?_, List.Pairwise.cons (fun q hq g hg he => ?_) (Kfn cb w), KeepsOthers.refl w, Nat.le_of_lt hlt⟩
  · rcases List.mem_cons.1 hq with rfl | hq
    · exact ⟨hp, Nat.le_refl _, hc, hst⟩
    · obtain ⟨k, o, rfl, h1, h2⟩ := KdY hq;exact ⟨h2, Nat.le_of_lt h1⟩
  · obtain ⟨k, o, rfl, h1, h2⟩ := KdY hq;simp only [Pc.key, Option.some.injEq] at hg he;omega
theorem Pm.kept {w w1 : World} {cb : Nat} {L : List Pc} (h : Pm ⟨w, cb⟩ L w1) (hs : ∀ q ∈ Kr cb w, q ∈ L) : w.grownBy w1 (some cb) := by
  refine ⟨h.bel.os, h.bel.tape, h.bel.output, h.bel.size, fun k hk hne => ?_⟩;rcases Nat.lt_trichotomy k cb with h1 | h1 | h1
  · exact h.bel.block k h1
  · exact absurd (by rw [h1]) hne
  · obtain ⟨o, ho, hm⟩ := KeK h1 hk;exact ((h.own _ (hs _ hm)).1).trans ho.symm
theorem KiR {w : World} {b b' : Nat} {e : TypeId} {size n : Nat} {v : Value} {xs : List Value} (h : w.ownsRow b e size v n xs) (hk : ∀ g, v.ownBlock = some g -> b' <= g) : w.ownsRow b' e size v n xs := by
  refine ⟨h.1, ?_⟩;rcases h.2 with h | ⟨g, cap, cur, a, b, r⟩
  · exact .inl h
  · exact .inr ⟨g, cap, cur, a, hk g (by rw [a]; rfl), r⟩
theorem Pc.up {w : World} {b b' : Nat} {q : Pc} (h : q.ok b w) (hk : ∀ g, q.key = some g -> b' <= g) (hna : q.isAbs = false) : q.ok b' w := by
  cases q with
  | blk g t cs => exact ⟨h.1, hk g rfl⟩
  | row v e size n xs => exact KiR h hk
  | oth k o => exact ⟨h.1, hk k rfl⟩
  | abs g p => cases hna
structure Codr (p : World -> Prop) (cb : Nat) (w : World) (Ln : List Pc) (w' : World) : Prop where
  cod : p w'
  grown : w.grownBy w' (some cb)
  cells : KdM w' cb
  own : ∀ q ∈ Ln, q.ok w.heap.size w'
  apart : Ln.Pairwise fun p q => ∀ g, p.key = some g -> q.key ≠ some g
theorem Pm.codr {w w1 : World} {cb : Nat} {p : World -> Prop} (Ln : List Pc) (h : Pm ⟨w, cb⟩ (Ln ++ .abs cb p :: Kr cb w) w1) (hna : Kaw Ln = true) : Codr p cb w Ln w1 := by
  have ha := List.pairwise_append.1 h.apart;have habs := h.own (.abs cb p) (List.mem_append_right _ List.mem_cons_self);refine ⟨habs.1, h.kept fun q hq => List.mem_append_right _ (List.mem_cons_of_mem _ hq), habs.2.2.1, fun q hq => ?_, ha.1⟩;refine Pc.up (h.own q (List.mem_append_left _ hq)) (fun g hg => ?_) (Ked hna q hq);rcases Nat.lt_or_ge g w.heap.size with h1 | h1
  · exfalso;have hge : cb <= g := (Pc.lt (h.own q (List.mem_append_left _ hq)) g hg).1;rcases Nat.eq_or_lt_of_le hge with h2 | h2
    · subst h2;exact ha.2.2 q hq _ List.mem_cons_self cb hg rfl
    · obtain ⟨o, ho, hm⟩ := KeK h2 h1;exact ha.2.2 q hq _ (List.mem_cons_of_mem _ hm) g hg rfl
  · exact h1
section
variable {P : Program} {N : Fr} {Q : Exit -> Act -> World -> Prop} {E : Env} {w0 : Base} {L : List Pc} {ops : Array Oper} {l : List Oper} {o : Oper}
theorem Pm.cods {w w' : World} {k cb : Nat} {p : World -> Prop} {Ln : List Pc} (h : Pm w0 L w) (hk : L[k]? = some (.abs cb p)) (hc : Codr p cb w Ln w') (hna : Kaw Ln = true) : Pm w0 (Ln ++ L) w' := by
  have hp := h.at_ hk;have hcb := (Pc.lt hp cb rfl);have hkeys : ∀ q ∈ L, ∀ g, q.key = some g -> g < w.heap.size := fun q hq g hg => (Pc.lt (h.own q hq) g hg).2
  have hold : ∀ q ∈ L, q.ok w0.b w' := fun q hq => by
    by_cases he : q.key = some cb
    · -- the piece itself
      obtain ⟨i, hi⟩ := List.getElem?_of_mem hq
      have hik : i = k := by
        rcases Nat.lt_trichotomy i k with h1 | h1 | h1
        · exact absurd rfl (List.pairwise_iff_getElem.1 h.apart i k (List.getElem?_eq_some_iff.1 hi).1 (List.getElem?_eq_some_iff.1 hk).1 h1 cb (by rw [(List.getElem?_eq_some_iff.1 hi).2]; exact he) |> fun hh => by rw [(List.getElem?_eq_some_iff.1 hk).2] at hh; exact hh)
        · exact h1
        · exact absurd he (List.pairwise_iff_getElem.1 h.apart k i (List.getElem?_eq_some_iff.1 hk).1 (List.getElem?_eq_some_iff.1 hi).1 h1 cb (by rw [(List.getElem?_eq_some_iff.1 hk).2]; rfl) |> fun hh => by rw [(List.getElem?_eq_some_iff.1 hi).2] at hh; exact hh)
      subst hik;rw [hk] at hi;cases hi;exact ⟨hc.cod, hp.2.1, hc.cells, hp.2.2.2⟩
    · refine Pc.same (h.own q hq) (fun g hg => hc.grown.block g (hkeys q hq g hg) fun e => he (by rw [hg, e])) (fun j hj => hc.grown.block j (Nat.lt_of_lt_of_le hj h.base) fun e => ?_);cases e;have := hcb.1;omega
  refine ⟨h.bel.grown hc.grown h.base (fun j e => by cases e; exact hcb.1), fun q hq => ?_, List.pairwise_append.2 ⟨hc.apart, h.apart, fun q hq r hr g hg hgr => ?_⟩, h.oth.trans (KeepsOthers.of_grownBy hc.grown fun j o hj ho => ?_), h.low⟩
  · rcases List.mem_append.1 hq with hq | hq
    · exact Pc.mono (hc.own q hq) h.base (Ked hna q hq)
    · exact hold q hq
  · have h1 := (Pc.lt (hc.own q hq) g hg).1;have h2 := hkeys r hr g hgr;omega
  · cases hj;obtain ⟨o', h1, h2⟩ := hp.2.2.1;rw [ho] at h1;cases h1;exact h2
theorem TL.pcallCod {α : Type} {k cb d : Nat} {p : World -> Prop} {f : FuncId} {fn : Func} {xs : List Operand} {ts : Array TypeId} {vs : List Value} (r : α -> Value) (Ln : α -> List Pc) (hg : o.guard = none) (hd : o.dst = some d) (hN : Nat.blt d N.n = true)
    (ho : o.op = .call { callee := .value (.func f), args := xs.toArray, argTypes := ts }) (hx : evs E xs = some vs) (hf : P.funcs[f]? = some fn) (hn : (fn.name == "runtime.NumGoroutine") = false) (hb : fn.body.isNone = false)
    (hk : L[k]? = some (.abs cb p)) (hc : ∀ w, Pm w0 L w -> p w -> Calls P f vs.toArray w fun en w' => ∃ x, en = .returned (r x) /\ Codr p cb w (Ln x) w')
    (h : ∀ x, TL P N ops Q l ((d, r x) :: E) (Pm w0 (Ln x ++ L))) (hna : ∀ x, Kaw (Ln x) = true := by intro x; rfl) : TL P N ops Q (o :: l) E (Pm w0 L) :=
  TL.call (α := α) (r := r) (I' := fun x => Pm w0 (Ln x ++ L)) hg hd hN ho hx hf hn hb (fun w hw => (hc w hw (hw.at_ hk).1).mono fun en w' ⟨x, he, h2⟩ => ⟨x, he, hw.cods hk h2 (hna x)⟩) h
theorem TL.callNew {d : Nat} {I : World -> Prop} {p : Nat -> World -> Prop} {f : FuncId} {fn : Func} {xs : List Operand} {ts : Array TypeId} {vs : List Value} (hg : o.guard = none) (hd : o.dst = some d) (hN : Nat.blt d N.n = true)
    (ho : o.op = .call { callee := .value (.func f), args := xs.toArray, argTypes := ts }) (hx : evs E xs = some vs) (hf : P.funcs[f]? = some fn) (hn : (fn.name == "runtime.NumGoroutine") = false) (hb : fn.body.isNone = false)
    (hc : ∀ w, I w -> Calls P f vs.toArray w fun en w' => en = .returned (.pointer (some ⟨w.heap.size, 0, none⟩)) /\ p w.heap.size w' /\ KdM w' w.heap.size /\ Below w.heap.size w w') (hst : ∀ cb, Kd2 cb (p cb))
    (h : ∀ w1, I w1 -> TL P N ops Q l ((d, .pointer (some ⟨w1.heap.size, 0, none⟩)) :: E) (Pm w1 [.abs w1.heap.size (p w1.heap.size)])) : TL P N ops Q (o :: l) E I := fun a w ha hw =>
  wpList_plain hg fun K hK => by
    unfold Oper.wp;rw [KcV ha ho hx hf hn hb, Oper.upon_enter];refine (hc w hw).mono ?_;rintro e w' ⟨rfl, hp, hcl, hbel⟩;show K (a.put o.dst _) w';rw [hd];refine hK _ _ (h w hw _ _ (ha.put d _ (by simpa [Nat.blt_eq] using hN)) ⟨hbel, fun q hq => ?_, List.pairwise_singleton _ _, Kg2 hbel, Nat.le_refl _⟩);rcases List.mem_singleton.1 hq with rfl;exact ⟨hp, Nat.le_refl _, hcl, hst _⟩
theorem KeC {t : TypeId} {x lo : Operand} {vx vl v : Value} {I : World -> Prop} (ho : o.op = .slice t x (some lo) none none) (hx : ev E x = some vx) (hl : ev E lo = some vl) (hv : ∀ w : World, (Instr.sliceAt t vx (some vl) none none).run P w = .ok v w) : Kl P N o E I v := fun a w ha _ => by
  unfold execOp; rw [ho];simp only [Option.map_some, Option.map_none, ha.eval hx, ha.eval hl, Sem.run_bind, hv, Result.andThen_ok, Sem.run_pure]
theorem Kef {t : TypeId} {size : Nat} (ht : P.underlying t = some (.slice (P.elem t))) (hs : ∀ w : World, (sizeOf (P.elem t)).run P w = .ok size w) (A : Option Addr) (n c lo : Nat) {k : IntKind} {a : Int} (ha : a = (lo : Int)) (h : lo <= n) (w : World) :
    (Instr.sliceAt t (.slice A n c) (some (.int k a)) none none).run P w = .ok (.slice (if c = lo then A else A.map (·.add (lo * size))) (n - lo) (c - lo)) w := by
  subst ha;rw [run_sliceAt_slice w t _ _ _ _ ht, run_slice_l w t A n c ht k lo (by omega) (by omega)];simp only [hs, Result.andThen, sliced, Int.toNat_natCast]
end
structure Chg (g : Nat) (t : TypeId) (cs : List Value) (w : World) (Ln : List Pc) (w' : World) : Prop where
  blk : Blk w' g t cs.toArray
  grown : w.grownBy w' (some g)
  own : ∀ q ∈ Ln, q.ok w.heap.size w'
  apart : Ln.Pairwise fun p q => ∀ g, p.key = some g -> q.key ≠ some g
section
variable {P : Program} {N : Fr} {Q : Exit -> Act -> World -> Prop} {E : Env} {w0 : Base} {L : List Pc} {ops : Array Oper} {l : List Oper} {o : Oper}
end
section
variable {P : Program} {N : Fr} {Q : Exit -> Act -> World -> Prop} {E : Env} {w0 : Base} {L : List Pc} {ops : Array Oper} {l : List Oper} {o : Oper} {I : World -> Prop}
theorem TL.fact {p : Prop} (hp : ∀ w, I w -> p) (h : p -> TL P N ops Q l E I) : TL P N ops Q l E I := fun a w ha hw => h (hp w hw) a w ha hw
theorem Kbb {x : Operand} {i : Nat} {vs : Array Value} {v : Value} (ho : o.op = .extract x i) (hx : ev E x = some (.tuple vs)) (hv : vs[i]? = some v) : Kl P N o E I v := fun a w ha _ => by
  unfold execOp; rw [ho];simp [ha.eval hx, Instr.extract, hv]
theorem Kcn {fn : Func} {t u : Tmp} {v1 v2 : Value} {R : Ending -> World -> Prop} (hr : fn.results = #[.tmp t, .tmp u]) (h1 : look E t = some v1) (h2 : look E u = some v2) (hR : ∀ w, I w -> R (.returned (.tuple #[v1, v2])) w) (hD : N.ds = [] := by rfl) : TX N (bodyPost P fn R) .ret E I := fun a w ha hw =>
  ⟨ha.defers.trans hD, .tuple #[v1, v2], by rw [results_tmp2 hr]; have e1 := ha.slot t _ h1; have e2 := ha.slot u _ h2; simp [e1, e2], hR w hw⟩
variable {xt : TypeId} {k : IntKind} {m n : Int}
theorem KeB (h : m < n) (w : World) : (binOp .lss xt (.int k m) (.int k n)).run P w = .ok (.bool true) w := by rw [Km, decide_eq_true h]
theorem Kdq (h : m = n) (w : World) : (binOp .eql xt (.int k m) (.int k n)).run P w = .ok (.bool true) w := by rw [Kab, decide_eq_true h]
theorem Kck (h : m = n) (w : World) : (binOp .neq xt (.int k m) (.int k n)).run P w = .ok (.bool false) w := by rw [K1, decide_eq_false (by simpa using h)]
theorem KfS (h0 : 0 <= m) (h1 : 0 < n) (w : World) : (binOp .rem xt (.int k m) (.int k n)).run P w = .ok (.int k (m % n)) w := by
  have hz : n ≠ 0 := by omega
  have := Int.tmod_eq_emod_of_nonneg (a := m) (b := n) h0;simp [binOp, go_sem, Op.intDiv, hz, this]
theorem TL.vsplit {d : Nat} {b : Bool} (hg : o.guard = none) (hd : o.dst = some d) (hN : Nat.blt d N.n = true) (hv : Kl P N o E I (.bool b)) (ht : b = true -> TL P N ops Q l ((d, .bool true) :: E) I) (hf : b = false -> TL P N ops Q l ((d, .bool false) :: E) I) : TL P N ops Q (o :: l) E I := by
  cases b with
  | true => exact TL.val hg hd hN hv (ht rfl)
  | false => exact TL.val hg hd hN hv (hf rfl)
theorem TL.callsplit {d : Nat} {b : Bool} {f : FuncId} {fn : Func} {xs : List Operand} {ts : Array TypeId} {vs : List Value} (hg : o.guard = none) (hd : o.dst = some d) (hN : Nat.blt d N.n = true)
    (ho : o.op = .call { callee := .value (.func f), args := xs.toArray, argTypes := ts }) (hx : evs E xs = some vs) (hf : P.funcs[f]? = some fn) (hn : (fn.name == "runtime.NumGoroutine") = false) (hb : fn.body.isNone = false)
    (hc : ∀ w, Pm w0 L w -> Calls P f vs.toArray w fun e w' => e = .returned (.bool b) /\ Below w.heap.size w w') (ht : b = true -> TL P N ops Q l ((d, .bool true) :: E) (Pm w0 L)) (hf' : b = false -> TL P N ops Q l ((d, .bool false) :: E) (Pm w0 L)) : TL P N ops Q (o :: l) E (Pm w0 L) := by
  cases b with
  | true => exact TL.pcall1 hg hd hN ho hx hf hn hb hc (ht rfl)
  | false => exact TL.pcall1 hg hd hN ho hx hf hn hb hc (hf' rfl)
theorem TC.condT {c : Operand} {x y : Code} (hc : ev E c = some (.bool true)) (h : TC P N Q x E I) : TC P N Q (.cond c x y) E I := TC.split hc (fun _ => h) (fun e => by cases e)
theorem TC.condF {c : Operand} {x y : Code} (hc : ev E c = some (.bool false)) (h : TC P N Q y E I) : TC P N Q (.cond c x y) E I := TC.split hc (fun e => by cases e) (fun _ => h)
theorem Kgv {p : Prop} [Decidable p] (h : p) : Ending.returned (.bool true) = .returned (.bool (decide p)) := by rw [decide_eq_true h]
theorem KdS {p : Prop} [Decidable p] (h : ¬ p) : Ending.returned (.bool false) = .returned (.bool (decide p)) := by rw [decide_eq_false h]
theorem Klg {t : TypeId} {x : Operand} {i g off : Nat} {v : Value} (ho : o.op = .fieldAddr t x i) (hx : ev E x = some (.pointer (some ⟨g, off, none⟩))) (hv : ∀ w : World, (Instr.fieldAt t (.pointer (some ⟨g, off, none⟩)) i).run P w = .ok v w) : Kl P N o E I v := fun a w ha _ => by
  unfold execOp; rw [ho];simp only [ha.eval hx, Sem.run_bind, hv, Result.andThen_ok, Sem.run_pure]
end
theorem Pm.neq {w0 : Base} {w : World} {L : List Pc} {i j : Nat} {p q : Pc} (h : Pm w0 L w) (hi : L[i]? = some p) (hj : L[j]? = some q) (hij : i ≠ j) : ∀ g, p.key = some g -> q.key ≠ some g := by
  intro g hp hq;obtain ⟨hi1, hi2⟩ := List.getElem?_eq_some_iff.1 hi;obtain ⟨hj1, hj2⟩ := List.getElem?_eq_some_iff.1 hj;rcases Nat.lt_or_gt_of_ne hij with h1 | h1
  · exact List.pairwise_iff_getElem.1 h.apart i j hi1 hj1 h1 g (by rw [hi2]; exact hp) (by rw [hj2]; exact hq)
  · exact List.pairwise_iff_getElem.1 h.apart j i hj1 hi1 h1 g (by rw [hj2]; exact hq) (by rw [hi2]; exact hp)
theorem Pm.pick {w0 : Base} {w : World} {L L' : List Pc} (h : Pm w0 L w) (ks : List Nat) (hn : ks.Nodup) (he : ks.map (fun k => L[k]?) = L'.map some) : Pm w0 L' w := by
  have key : ∀ (i : Nat) (p : Pc), L'[i]? = some p -> ∃ k, ks[i]? = some k /\ L[k]? = some p := by
    intro i p hi;have e := congrArg (fun l => l[i]?) he;simp only [List.getElem?_map, hi, Option.map_some] at e
    cases hk : ks[i]? with
    | none => rw [hk] at e; simp at e
    | some k => rw [hk] at e; simp only [Option.map_some, Option.some.injEq] at e; exact ⟨k, rfl, e⟩
  refine ⟨h.bel, fun p hp => ?_, ?_, h.oth, h.low⟩
  · obtain ⟨i, hi⟩ := List.getElem?_of_mem hp;obtain ⟨k, _, hk⟩ := key i p hi;exact h.own p (List.mem_of_getElem? hk)
  · refine List.pairwise_iff_getElem.2 fun i j hi hj hij => ?_;obtain ⟨a, ha, hpa⟩ := key i _ (List.getElem?_eq_getElem hi);obtain ⟨b, hb, hpb⟩ := key j _ (List.getElem?_eq_getElem hj);refine h.neq hpa hpb fun e => ?_;subst e;obtain ⟨ha1, ha2⟩ := List.getElem?_eq_some_iff.1 ha;obtain ⟨hb1, hb2⟩ := List.getElem?_eq_some_iff.1 hb;have := (List.pairwise_iff_getElem.1 hn) i j ha1 hb1 hij;rw [ha2, hb2] at this;exact this rfl
section
variable {P : Program} {N : Fr} {Q : Exit -> Act -> World -> Prop} {E : Env} {w0 : Base} {L : List Pc} {ops : Array Oper} {l : List Oper} {o : Oper}
theorem TL.prowS {d : Nat} {t e : TypeId} {n size : Nat} {xs : List (Nat × Operand)} {vs : List (Nat × Value)} {cs : List Value} (hg : o.guard = none) (hd : o.dst = some d) (hN : Nat.blt d N.n = true)
    (ho : o.op = .buildSlice t n xs.toArray) (hx : evp E xs = some vs) (hr : ∀ w : World, (Instr.buildSlice t n vs.toArray).run P w = .ok (.slice (some ⟨w.heap.size, 0, none⟩) n n) (w.alloc (.cells cs.toArray e))) (hn : n <= maxLen) (hc : cs.length = n * size)
    (h : ∀ g, TL P N ops Q l ((d, .slice (some ⟨g, 0, none⟩) n n) :: E) (Pm w0 (.row (.slice (some ⟨g, 0, none⟩) n n) e size n cs :: L))) : TL P N ops Q (o :: l) E (Pm w0 L) :=
  TL.run (α := Nat) (r := fun g => .slice (some ⟨g, 0, none⟩) n n) (I' := fun g => Pm w0 (.row (.slice (some ⟨g, 0, none⟩) n n) e size n cs :: L)) hg hd hN (fun a w ha hw => by
    refine ⟨w.heap.size, w.alloc (.cells cs.toArray e), ?_, hw.add ((Below.refl _ _).alloc (Nat.le_refl _) _) ⟨hc, .inr ⟨w.heap.size, n, cs.toArray, rfl, Nat.le_refl _, heap_alloc_new w _, Nat.le_refl _, hn, by simpa using hc, ?_⟩⟩⟩
    · unfold execOp; rw [ho];simp only [ha.evalps hx, Sem.run_bind, hr, Result.andThen_ok, Sem.run_pure, List.map_toArray]
    · simp [<- hc]) h
theorem TL.stcall {d : Nat} {I : World -> Prop} {f : FuncId} {fn : Func} {xs : List Operand} {ts : Array TypeId} {vs : List Value} {r : Value} (hg : o.guard = none) (hd : o.dst = some d) (hN : Nat.blt d N.n = true)
    (ho : o.op = .call { callee := .value (.func f), args := xs.toArray, argTypes := ts }) (hx : evs E xs = some vs) (hf : P.funcs[f]? = some fn) (hn : (fn.name == "runtime.NumGoroutine") = false) (hb : fn.body.isNone = false)
    (hc : ∀ w, I w -> Calls P f vs.toArray w fun e w' => e = .returned r /\ w' = w) (h : TL P N ops Q l ((d, r) :: E) I) : TL P N ops Q (o :: l) E I :=
  TL.call (α := Unit) (r := fun _ => r) (I' := fun _ => I) hg hd hN ho hx hf hn hb (fun w hw => (hc w hw).mono fun e w' ⟨he, hb⟩ => ⟨(), he, hb ▸ hw⟩) (fun _ => h)
theorem TS.call {d : Nat} {I : World -> Prop} {R : Act -> World -> Prop} {f : FuncId} {fn : Func} {xs : List Operand} {ts : Array TypeId} {vs : List Value} {r : Value} (hg : o.guard = none) (hd : o.dst = some d) (hN : Nat.blt d N.n = true)
    (ho : o.op = .call { callee := .value (.func f), args := xs.toArray, argTypes := ts }) (hx : evs E xs = some vs) (hf : P.funcs[f]? = some fn) (hn : (fn.name == "runtime.NumGoroutine") = false) (hb : fn.body.isNone = false)
    (hc : ∀ w, I w -> Calls P f vs.toArray w fun e w' => e = .returned r /\ w' = w) (h : TS P N ops R l ((d, r) :: E) I) : TS P N ops R (o :: l) E I := fun a w ha hw => by
  unfold wpStill;rw [if_pos (by simp [Region.wanted, hg])];unfold Oper.still;rw [KcV ha ho hx hf hn hb];refine ⟨rfl, r, hc w hw, ?_⟩;rw [hd];exact h _ _ (ha.put d r (by simpa [Nat.blt_eq] using hN)) hw
theorem Kbi {fn : Func} {p u : Tmp} {t te : TypeId} {g k : Nat} {cs : List Value} {v : Value} {d : TypeDesc} {R : Ending -> World -> Prop} (hr : fn.results = #[.cell p t, .tmp u]) (hp : look E p = some (.pointer (some ⟨g, 0, none⟩))) (hv : look E u = some v) (hk : L[k]? = some (.blk g te cs))
    (hu : P.underlying t = some d) (hd : (match d with | .struct _ | .array _ _ => true | _ => false) = true) (hi : (P.info? t).map (·.size) = some cs.length) (hR : ∀ w, Pm w0 L w -> R (.returned (.tuple #[.agg cs.toArray, v])) w) (hD : N.ds = [] := by rfl) :
    TX N (bodyPost P fn R) .ret E (Pm w0 L) := fun a w ha hw =>
  ⟨ha.defers.trans hD, .tuple #[.agg cs.toArray, v], by
    have e1 := ha.slot p _ hp;have e2 := ha.slot u _ hv;simp [results, hr, e1, e2, asAddr, run_loadVar_row w g te t cs.toArray (0, 0) d (hw.at_ hk).1 hu hd (by simpa using hi)], hR w hw⟩
end
theorem Kkr (a : Addr) : a.add 0 = a := by cases a; simp [Addr.add]
section
variable {P : Program} {N : Fr} {E : Env} {o : Oper}
theorem Kjr {t : TypeId} {size : Nat} (ht : P.underlying t = some (.slice (P.elem t))) (hs : ∀ w : World, (sizeOf (P.elem t)).run P w = .ok size w) (A : Option Addr) (n c hi : Nat) {k : IntKind} {a : Int} (ha : a = (hi : Int)) (h : hi <= c) (w : World) :
    (Instr.sliceAt t (.slice A n c) none (some (.int k a)) none).run P w = .ok (.slice A hi c) w := by
  subst ha;rw [run_sliceAt_slice w t _ _ _ _ ht, run_slice_h w t A n c ht k hi (by omega) (by omega)];simp only [hs, Result.andThen, sliced, Int.toNat_natCast, Nat.zero_mul, Nat.sub_zero]
  congr 2
  cases A with
  | none => simp
  | some a => simp [Kkr]
theorem Kj4 {t : TypeId} {x hi : Operand} {vx vh v : Value} {I : World -> Prop} (ho : o.op = .slice t x none (some hi) none) (hx : ev E x = some vx) (hh : ev E hi = some vh) (hv : ∀ w : World, (Instr.sliceAt t vx none (some vh) none).run P w = .ok v w) : Kl P N o E I v := fun a w ha _ => by
  unfold execOp; rw [ho];simp only [Option.map_some, Option.map_none, ha.eval hx, ha.eval hh, Sem.run_bind, hv, Result.andThen_ok, Sem.run_pure]
end
section
variable {P : Program} {ops : Array Oper} {S : World -> Prop} {Q : Exit -> Act -> World -> Prop}
def Kbj (P : Program) (ops : Array Oper) (S : World -> Prop) (o : Oper) (v : Value) (a : Act) : Prop :=
  Region.wanted o (yielded ops a.tmps) = true /\ ∀ w, S w -> ∃ f args, (execOp a.eval o).run P w = .ok (.enter f args) w /\ Calls P f args w fun e w' => e = .returned v /\ w' = w
theorem Kbj.go {i : Nat} {o : Oper} {v : Value} {a : Act} {K : Act -> World -> Prop} {w : World} (h : Kbj P ops S o v a) (hi : ops[i]? = some o) (hS : S w) (hK : K (a.put o.dst v) w) : wpOp P ops Q i K a w := by
  obtain ⟨h1, h2⟩ := h;obtain ⟨f, args, he, hc⟩ := h2 w hS;unfold wpOp;rw [hi];simp only [h1, if_true]
  left
  unfold Oper.wp;rw [he];simp only [Oper.upon];refine hc.mono ?_;rintro e w' ⟨rfl, rfl⟩;exact hK
theorem Kbj.like {o : Oper} {v : Value} {a b : Act} (h : Kbj P ops S o v a) (he : execOp b.eval o = execOp a.eval o) (hw : Region.wanted o (yielded ops b.tmps) = Region.wanted o (yielded ops a.tmps)) : Kbj P ops S o v b :=
  ⟨hw.trans h.1, fun w hS => by rw [he]; exact h.2 w hS⟩
theorem Kbj.across {j : Nat} {o oj : Oper} {v : Value} {a : Act} {K : Act -> World -> Prop} {w : World} (hy : Kbj P ops S o v a) (hj : ops[j]? = some oj) (hap : o.apart ops oj = true) (hs : ∀ cs b, o.op ≠ .select cs b) (hsj : ∀ cs b, oj.op ≠ .select cs b)
    (h : wpOp P ops (NoPanic Q) j K (a.put o.dst v) w) : wpOp P ops (NoPanic Q) j (fun b w' => Kbj P ops S o v b /\ K (b.put o.dst v) w') a w := by
  obtain ⟨p1, p2, p3⟩ := Oper.apart_spec hap;have stay : ∀ (b : Act) (u : Value), Kbj P ops S o v b -> Kbj P ops S o v (b.put oj.dst u) := fun b u hb => hb.like (execOp_put o hs b oj.dst u p3) (wanted_put o b oj.dst u p3);have swap : ∀ (b : Act) (u : Value), (b.put oj.dst u).put o.dst v = (b.put o.dst v).put oj.dst u := fun b u => (Act.put_comm b v u p2).symm;unfold wpOp at h ⊢;rw [hj] at h ⊢;dsimp only at h ⊢;rw [wanted_put oj a o.dst v p1] at h;by_cases hw : Region.wanted oj (yielded ops a.tmps) = true
  · rw [if_pos hw] at h ⊢;rcases h with h | ⟨k1, k2⟩
    · left
      unfold Oper.wp at h ⊢;rw [execOp_put oj hsj a o.dst v p1] at h
      cases hr : (execOp a.eval oj).run P w with
      | halt x w' =>
        rw [hr] at h;cases x <;> simp only [Oper.upon] at h ⊢
        case panic u => exact h
      | ok n w' =>
        rw [hr] at h;cases n <;> simp only [Oper.upon] at h ⊢
        case value u => exact ⟨stay a u hy, by rw [swap]; exact h⟩
        case skip => exact ⟨stay a _ hy, by rw [swap]; exact h⟩
        case defer d =>
          refine ⟨stay _ _ (hy.like (b := { a with defers := d :: a.defers }) rfl rfl), ?_⟩;rw [swap, <- Act.put_defers];exact h
        case enter f args =>
          refine Calls.mono h fun e w2 he => ?_
          cases e with
          | returned u => exact ⟨stay a u hy, by rw [swap]; exact he⟩
          | panicked c => exact he
          | outgrown => exact he
        case row r args => exact Rows.mono h fun u w2 he => ⟨stay a u hy, by rw [swap]; exact he⟩
    · right
      refine ⟨?_, k2⟩;unfold Oper.asks at k1 ⊢;rw [execOp_put oj hsj a o.dst v p1] at k1;exact k1
  · rw [if_neg hw] at h ⊢;exact ⟨stay a _ hy, by rw [swap]; exact h⟩
theorem Kkc {i : Nat} {o : Oper} {v : Value} (hi : ops[i]? = some o) (hsel : ∀ (j : Nat) (o : Oper) cs b, ops[j]? = some o -> o.op ≠ .select cs b) : ∀ (f : Nat) (listed : Array Bool) (a : Act) (w : World),
    (∀ j oj, ops[j]? = some oj -> j ≠ i -> listed.getD j true = false -> (∀ e ∈ oj.after, Region.binds .any e = true -> e.on ≠ i) -> o.apart ops oj = true) -> i ∈ Region.ready .any ops listed -> Kbj P ops S o v a -> S w ->
    wpAnyH P .any ops (NoPanic Q) S f (listed.setIfInBounds i true) (a.put o.dst v) w -> wpAnyH P .any ops (NoPanic Q) S (f + 1) listed a w := by
  intro f
  induction f with
  | zero =>
    intro listed a w _ hr hy hS H;refine ⟨fun h0 => (by rw [h0] at hr; cases hr), fun j hj => ?_⟩;rcases Decidable.em (j = i) with e | e
    · exact e ▸ hy.go hi hS ⟨hS, H⟩
    · have h1 := ready_mono hj e;rw [H.1] at h1;cases h1
  | succ f ih =>
    intro listed a w hfree hr hy hS H;refine ⟨fun h0 => (by rw [h0] at hr; cases hr), fun j hj => ?_⟩;rcases Decidable.em (j = i) with e | e
    · exact e ▸ hy.go hi hS ⟨hS, H⟩
    · obtain ⟨hun, oj, hoj, hall⟩ := mem_ready.1 hj
      have hno : ∀ e ∈ oj.after, Region.binds .any e = true -> e.on ≠ i := by
        intro e he hb hon;have h1 := hall e he hb;have h0 := (mem_ready.1 hr).1;rw [hon] at h1;rcases Nat.lt_or_ge i listed.size with hlt | hge
        · simp [hlt] at h0 h1;rw [h0] at h1;cases h1
        · simp [Array.getElem?_eq_none hge] at h1
      have h2 := hy.across hoj (hfree j oj hoj e hun hno) (fun cs b => hsel i o cs b hi) (fun cs b => hsel j oj cs b hoj) (H.2 j (ready_mono hj e));refine wpOp_mono (fun b w' h3 => ⟨h3.2.1, ih _ b w' (fun k ok hk hki hkl hkn => hfree k ok hk hki ?_ hkn) (ready_mono hr (Ne.symm e)) h3.1 h3.2.1 ?_⟩) h2
      · rcases Decidable.em (j = k) with e2 | e2
        · exact e2 ▸ hun
        · rwa [getD_set_ne true e2] at hkl
      · rw [Array.setIfInBounds_comm _ _ e];exact h3.2.2
end
section
variable {P : Program} {N : Fr} {Q : Exit -> Act -> World -> Prop} {E : Env} {I S : World -> Prop} {ops : Array Oper} {f : Nat} {listed : Array Bool}
theorem TH.takeC {o : Oper} {d : Nat} {r : Value} {g : FuncId} {fn : Func} {xs : List Operand} {ts : Array TypeId} {vs : List Value} {listed' : Array Bool} (i : Nat) (hi : ops[i]? = some o) (hs : Region.noSelect ops = true) (hf : Region.free .any ops listed i = true) (hr : (Region.ready .any ops listed).contains i = true) (hl : listed.setIfInBounds i true = listed')
    (hg : o.guard = none) (hd : o.dst = some d) (hN : Nat.blt d N.n = true) (ho : o.op = .call { callee := .value (.func g), args := xs.toArray, argTypes := ts }) (hx : evs E xs = some vs) (hfn : P.funcs[g]? = some fn) (hn : (fn.name == "runtime.NumGoroutine") = false) (hb : fn.body.isNone = false)
    (hc : ∀ w, S w -> Calls P g vs.toArray w fun e w' => e = .returned r /\ w' = w) (hS : ∀ w, I w -> S w)
    (h : TH P N ops S Q f listed' ((d, r) :: E) I) : TH P N ops S Q (f + 1) listed E I := fun a w ha hw => by
  subst hl;refine Kkc hi (Region.noSelect_spec hs) f listed a w (Region.free_spec hi hf) (by simpa using hr) (v := r) ⟨by simp [Region.wanted, hg], fun w' hw' => ⟨g, vs.toArray, KcV ha ho hx hfn hn hb, hc w' hw'⟩⟩ (hS w hw) ?_;exact h (a.put o.dst r) w (hd ▸ ha.put d r (by simpa [Nat.blt_eq] using hN)) hw
theorem KeW {o : Oper} {i : Nat} {K : Act -> World -> Prop} {a : Act} {w : World} (hi : ops[i]? = some o) (h : wpList P ops (Exit.then K (NoPanic Q)) [o] a w) : wpOp P ops (NoPanic Q) i K a w := by
  unfold wpOp;rw [hi];unfold wpList at h;dsimp only;by_cases hw : Region.wanted o (yielded ops a.tmps) = true
  · simp only [hw, if_true] at h ⊢;rcases h with h | ⟨h1, h2⟩
    · left
      unfold Oper.wp at h ⊢;generalize (execOp a.eval o).run P w = r at *
      cases r with
      | ok n w' => cases n <;> exact h
      | halt x w' => cases x <;> exact h
    · exact .inr ⟨h1, h2⟩
  · rw [if_neg hw] at h ⊢;exact h
theorem TH.only' {o : Oper} {listed' : Array Bool} (i : Nat) (hi : ops[i]? = some o) (hr : Region.ready .any ops listed = [i]) (hl : listed.setIfInBounds i true = listed')
    (h : TL P N ops (Exit.then (Hd P ops S Q f listed') (NoPanic Q)) [o] E I) : TH P N ops S Q (f + 1) listed E I := fun a w ha hw => by
  subst hl;refine wpAnyH_all hr (by simp) fun j hj => ?_;have : j = i := by simpa using hj
  subst this;exact KeW hi (h a w ha hw)
theorem TH.two' {o o' : Oper} {listed1 listed2 : Array Bool} (i j : Nat) (hi : ops[i]? = some o) (hj : ops[j]? = some o') (hr : Region.ready .any ops listed = [i, j]) (hl1 : listed.setIfInBounds i true = listed1) (hl2 : listed.setIfInBounds j true = listed2)
    (h : TL P N ops (Exit.then (Hd P ops S Q f listed1) (NoPanic Q)) [o] E I) (h' : TL P N ops (Exit.then (Hd P ops S Q f listed2) (NoPanic Q)) [o'] E I) : TH P N ops S Q (f + 1) listed E I := fun a w ha hw => by
  subst hl1 hl2;refine wpAnyH_all hr (by simp) fun k hk => ?_;have : k = i \/ k = j := by simpa using hk
  rcases this with rfl | rfl
  · exact KeW hi (h a w ha hw)
  · exact KeW hj (h' a w ha hw)
theorem TH.takeG {o : Oper} {d j dg : Nat} {b : Bool} {v : Value} {listed' : Array Bool} (i : Nat) (hi : ops[i]? = some o) (hs : Region.noSelect ops = true) (hf : Region.free .any ops listed i = true) (hr : (Region.ready .any ops listed).contains i = true) (hl : listed.setIfInBounds i true = listed')
    (hg : o.guard = some (j, b)) (hgd : (ops[j]?).bind (·.dst) = some dg) (hgE : look E dg = some (.bool b)) (hd : o.dst = some d) (hN : Nat.blt d N.n = true) (hv : Kl P N o E S v) (hS : ∀ w, I w -> S w)
    (h : TH P N ops S Q f listed' ((d, v) :: E) I) : TH P N ops S Q (f + 1) listed E I := fun a w ha hw => by
  subst hl;refine wpAnyH_take hi hs hf hr (fun c a w h => h) (v := v) (.inl ⟨by rw [Kcp ha hg hgd hgE]; simp, fun w' hw' => hv a w' ha hw'⟩) (hS w hw) ?_;exact h (a.put o.dst v) w (hd ▸ ha.put d v (by simpa [Nat.blt_eq] using hN)) hw
theorem TH.off {o : Oper} {d j dg : Nat} {b b' : Bool} {listed' : Array Bool} (i : Nat) (hi : ops[i]? = some o) (hs : Region.noSelect ops = true) (hf : Region.free .any ops listed i = true) (hr : (Region.ready .any ops listed).contains i = true) (hl : listed.setIfInBounds i true = listed')
    (hg : o.guard = some (j, b')) (hgd : (ops[j]?).bind (·.dst) = some dg) (hgE : look E dg = some (.bool b)) (hne : (b == b') = false) (hd : o.dst = some d) (hN : Nat.blt d N.n = true) (hS : ∀ w, I w -> S w)
    (h : TH P N ops S Q f listed' ((d, undef) :: E) I) : TH P N ops S Q (f + 1) listed E I := fun a w ha hw => by
  subst hl;refine wpAnyH_take hi hs hf hr (fun c a w h => h) (v := undef) (.inr ⟨by rw [Kcp ha hg hgd hgE, hne], rfl⟩) (hS w hw) ?_;exact h (a.put o.dst undef) w (hd ▸ ha.put d undef (by simpa [Nat.blt_eq] using hN)) hw
theorem TH.offU {o : Oper} {d j dg : Nat} {b' : Bool} {listed' : Array Bool} (i : Nat) (hi : ops[i]? = some o) (hs : Region.noSelect ops = true) (hf : Region.free .any ops listed i = true) (hr : (Region.ready .any ops listed).contains i = true) (hl : listed.setIfInBounds i true = listed')
    (hg : o.guard = some (j, b')) (hgd : (ops[j]?).bind (·.dst) = some dg) (hgE : look E dg = some undef) (hd : o.dst = some d) (hN : Nat.blt d N.n = true) (hS : ∀ w, I w -> S w)
    (h : TH P N ops S Q f listed' ((d, undef) :: E) I) : TH P N ops S Q (f + 1) listed E I := fun a w ha hw => by
  subst hl
  have h1 : yielded ops a.tmps j = none := by
    have := ha.slot dg _ hgE;simp [yielded, hgd, this, undef]
  have hw1 : Region.wanted o (yielded ops a.tmps) = false := by
    unfold Region.wanted;rw [hg];simp [h1]
  refine wpAnyH_take hi hs hf hr (fun c a w h => h) (v := undef) (.inr ⟨hw1, rfl⟩) (hS w hw) ?_;exact h (a.put o.dst undef) w (hd ▸ ha.put d undef (by simpa [Nat.blt_eq] using hN)) hw
end
abbrev dx (xs : List Int) (i : Nat) : Int := xs.getD i 0
def swp (xs : List Int) (i j : Nat) : List Int := (xs.set i (dx xs j)).set j (dx xs i)
theorem KhN (xs : List Int) (i j : Nat) : (swp xs i j).length = xs.length := by simp [swp]
theorem Khh {xs : List Int} {i : Nat} (h : i < xs.length) (v : Int) (k : Nat) : dx (xs.set i v) k = if k = i then v else dx xs k := by
  unfold dx;rw [List.getD_eq_getElem?_getD, List.getD_eq_getElem?_getD, List.getElem?_set];by_cases e : i = k
  · subst e; simp [h]
  · rw [if_neg e, if_neg (fun e2 => e e2.symm)]
theorem Kbx {xs : List Int} {i j : Nat} (hi : i < xs.length) (hj : j < xs.length) (k : Nat) : dx (swp xs i j) k = if k = j then dx xs i else if k = i then dx xs j else dx xs k := by
  unfold swp;rw [Khh (by simpa using hj), Khh hi]
theorem Klw {xs : List Int} {i j : Nat} (hi : i < xs.length) (hj : j < xs.length) : (swp xs i j).Perm xs := by
  have h := List.set_set_perm hi hj;unfold swp dx;rw [List.getD_eq_getElem?_getD, List.getD_eq_getElem?_getD, List.getElem?_eq_getElem hi, List.getElem?_eq_getElem hj];exact h
structure Pin (a b : Nat) (xs ys : List Int) : Prop where
  len : ys.length = xs.length
  perm : ys.Perm xs
  out : ∀ i, i < a \/ b <= i -> dx ys i = dx xs i
  ins : ∀ i, a <= i -> i < b -> ∃ j, a <= j /\ j < b /\ dx ys i = dx xs j
theorem Pin.refl (a b : Nat) (xs : List Int) : Pin a b xs xs := ⟨rfl, List.Perm.refl _, fun _ _ => rfl, fun i h1 h2 => ⟨i, h1, h2, rfl⟩⟩
theorem Pin.trans {a b : Nat} {xs ys zs : List Int} (h : Pin a b xs ys) (h2 : Pin a b ys zs) : Pin a b xs zs :=
  ⟨h2.len.trans h.len, h2.perm.trans h.perm, fun i hi => (h2.out i hi).trans (h.out i hi), fun i h3 h4 => by
    obtain ⟨j, a1, a2, a3⟩ := h2.ins i h3 h4;obtain ⟨k, b1, b2, b3⟩ := h.ins j a1 a2;exact ⟨k, b1, b2, a3.trans b3⟩⟩
theorem Pin.mono {a b a' b' : Nat} {xs ys : List Int} (h : Pin a b xs ys) (ha : a' <= a) (hb : b <= b') : Pin a' b' xs ys :=
  ⟨h.len, h.perm, fun i hi => h.out i (by omega), fun i h1 h2 => by
    by_cases e : a <= i /\ i < b
    · obtain ⟨j, c1, c2, c3⟩ := h.ins i e.1 e.2;exact ⟨j, by omega, by omega, c3⟩
    · exact ⟨i, h1, h2, h.out i (by omega)⟩⟩
theorem Pin.swp1 {a b i j : Nat} {xs : List Int} (hb : b <= xs.length) (h1 : a <= i) (h2 : i < b) (h3 : a <= j) (h4 : j < b) : Pin a b xs (swp xs i j) := by
  have hi : i < xs.length := by omega
  have hj : j < xs.length := by omega
  refine ⟨KhN _ _ _, Klw hi hj, fun k hk => ?_, fun k hk1 hk2 => ?_⟩
  · rw [Kbx hi hj, if_neg (by omega), if_neg (by omega)]
  · by_cases e : k = j
    · exact ⟨i, h1, h2, by rw [Kbx hi hj, if_pos e]⟩
    · by_cases e2 : k = i
      · exact ⟨j, h3, h4, by rw [Kbx hi hj, if_neg e, if_pos e2]⟩
      · exact ⟨k, hk1, hk2, by rw [Kbx hi hj, if_neg e, if_neg e2]⟩
theorem Pin.swap {a b i j : Nat} {xs ys : List Int} (h : Pin a b xs ys) (hb : b <= xs.length) (h1 : a <= i) (h2 : i < b) (h3 : a <= j) (h4 : j < b) : Pin a b xs (swp ys i j) :=
  h.trans (Pin.swp1 (by rw [h.len]; exact hb) h1 h2 h3 h4)
def Srt (a b : Nat) (xs : List Int) : Prop := ∀ p q, a <= p -> p < q -> q < b -> dx xs p <= dx xs q
def Low (a b : Nat) (xs : List Int) : Prop := ∀ p q, p + 1 = a -> a <= q -> q < b -> dx xs p <= dx xs q
theorem Low.pin {a b : Nat} {xs ys : List Int} (h : Low a b xs) (hp : Pin a b xs ys) : Low a b ys := fun p q h1 h2 h3 => by
  obtain ⟨j, a1, a2, a3⟩ := hp.ins q h2 h3;rw [hp.out p (by omega), a3];exact h p j h1 a1 a2
def Ins (a i j : Nat) (xs : List Int) : Prop := ∀ p q, a <= p -> p < q -> q <= i -> q ≠ j -> dx xs p <= dx xs q
theorem Ins.start {a i : Nat} {xs : List Int} (h : Srt a i xs) : Ins a i i xs := fun p q h1 h2 h3 h4 => h p q h1 h2 (by omega)
theorem Ins.stop {a i j : Nat} {xs : List Int} (h : Ins a i j xs) (hs : a < j -> dx xs (j - 1) <= dx xs j) : Srt a (i + 1) xs := fun p q h1 h2 h3 => by
  by_cases e : q = j
  · subst e;refine Int.le_trans ?_ (hs (by omega));by_cases e2 : p = q - 1
    · rw [e2]; exact Int.le_refl _
    · exact h p (q - 1) h1 (by omega) (by omega) (by omega)
  · exact h p q h1 h2 (by omega) e
theorem Srt.one {a b : Nat} {xs : List Int} (h : b <= a + 1) : Srt a b xs := fun p q h1 h2 h3 => by omega
theorem Srt.snoc {a i : Nat} {xs : List Int} (h : Srt a i xs) (h1 : a < i -> dx xs (i - 1) <= dx xs i) : Srt a (i + 1) xs := (Ins.start h).stop h1
theorem Srt.same {a b : Nat} {xs ys : List Int} (h : Srt a b xs) (he : ∀ k, a <= k -> k < b -> dx ys k = dx xs k) : Srt a b ys := fun p q h1 h2 h3 => by
  rw [he p h1 (by omega), he q (by omega) h3];exact h p q h1 h2 h3
def Hp (f lo hi : Nat) (xs : List Int) : Prop := ∀ i c, lo <= i -> (c = 2 * i + 1 \/ c = 2 * i + 2) -> c < hi -> dx xs (f + c) <= dx xs (f + i)
structure Sft (f lo hi r : Nat) (xs : List Int) : Prop where
  at_ : lo <= r
  heap : ∀ i c, lo <= i -> i ≠ r -> (c = 2 * i + 1 \/ c = 2 * i + 2) -> c < hi -> dx xs (f + c) <= dx xs (f + i)
  up : ∀ i c, lo <= i -> (r = 2 * i + 1 \/ r = 2 * i + 2) -> (c = 2 * r + 1 \/ c = 2 * r + 2) -> c < hi -> dx xs (f + c) <= dx xs (f + i)
theorem Sft.start {f lo hi : Nat} {xs : List Int} (h : Hp f (lo + 1) hi xs) : Sft f lo hi lo xs := ⟨Nat.le_refl _, fun i c h1 h2 h3 h4 => h i c (by omega) h3 h4, fun i c h1 h2 _ _ => by omega⟩
theorem Sft.stop {f lo hi r : Nat} {xs : List Int} (h : Sft f lo hi r xs) (hs : ∀ c, (c = 2 * r + 1 \/ c = 2 * r + 2) -> c < hi -> dx xs (f + c) <= dx xs (f + r)) : Hp f lo hi xs := fun i c h1 h2 h3 => by
  by_cases e : i = r
  · subst e; exact hs c h2 h3
  · exact h.heap i c h1 e h2 h3
theorem Hp.top {f hi : Nat} {xs : List Int} (h : Hp f 0 hi xs) : ∀ j, j < hi -> dx xs (f + j) <= dx xs f
  | j, hj => by
    rcases Nat.eq_zero_or_pos j with h0 | h0
    · subst h0; exact Int.le_refl _
    · exact Int.le_trans (h ((j - 1) / 2) j (Nat.zero_le _) (by omega) hj) (Hp.top h ((j - 1) / 2) (by omega))
structure Hsr (f m hi : Nat) (xs : List Int) : Prop where
  heap : Hp f 0 m xs
  tail : ∀ j k, j < k -> k < hi -> m <= k -> dx xs (f + j) <= dx xs (f + k)
theorem Hsr.step {f i hi : Nat} {xs ys : List Int} (h : Hsr f (i + 1) hi xs) (hi' : i < hi) (hl : f + hi <= xs.length) (hp : Pin f (f + i) (swp xs f (f + i)) ys) (hh : Hp f 0 i ys) : Hsr f i hi ys := by
  have e1 : f < xs.length := by omega
  have e2 : f + i < xs.length := by omega
  refine ⟨hh, fun j k h1 h2 h3 => ?_⟩
  have key : ∀ j, j < i -> ∃ z, z < i + 1 /\ dx ys (f + j) = dx xs (f + z) := fun j hj => by
    obtain ⟨z, z1, z2, z3⟩ := hp.ins (f + j) (by omega) (by omega);rw [z3, Kbx e1 e2];by_cases c1 : z = f + i
    · omega
    · rw [if_neg c1];by_cases c2 : z = f
      · exact ⟨i, by omega, by rw [if_pos c2]⟩
      · exact ⟨z - f, by omega, by rw [if_neg c2]; congr 1; omega⟩
  have top : dx ys (f + i) = dx xs f := by rw [hp.out (f + i) (by omega), Kbx e1 e2, if_pos rfl]
  have rest : ∀ k, i < k -> dx ys (f + k) = dx xs (f + k) := fun k hk => by rw [hp.out (f + k) (by omega), Kbx e1 e2, if_neg (by omega), if_neg (by omega)]
  by_cases c1 : k = i
  · subst c1;obtain ⟨z, z1, z2⟩ := key j h1;rw [z2, top];exact h.heap.top z z1
  · rw [rest k (by omega)];by_cases c2 : j < i
    · obtain ⟨z, z1, z2⟩ := key j c2;rw [z2];exact h.tail z k (by omega) h2 (by omega)
    · by_cases c3 : j = i
      · subst c3;rw [top];exact h.tail 0 k (by omega) h2 (by omega)
      · rw [rest j (by omega)];exact h.tail j k h1 h2 (by omega)
theorem Hsr.done {f hi : Nat} {xs : List Int} (h : Hsr f 0 hi xs) : Srt f (f + hi) xs := fun p q h1 h2 h3 => by
  have := h.tail (p - f) (q - f) (by omega) (by omega) (by omega);rwa [show f + (p - f) = p by omega, show f + (q - f) = q by omega] at this
structure Prt (a b i j : Nat) (xs : List Int) : Prop where
  hi : a + 1 <= i
  hj : j < b
  ij : i <= j + 1
  lo : ∀ k, a < k -> k < i -> dx xs k <= dx xs a
  up : ∀ k, j < k -> k < b -> dx xs a <= dx xs k
theorem Prt.start {a b : Nat} {xs : List Int} (h : a < b) : Prt a b (a + 1) (b - 1) xs := ⟨Nat.le_refl _, by omega, by omega, fun k h1 h2 => by omega, fun k h1 h2 => by omega⟩
theorem Prt.dec {a b i j : Nat} {xs : List Int} (h : Prt a b i j xs) (hij : i <= j) (hl : dx xs a <= dx xs j) : Prt a b i (j - 1) xs :=
  ⟨h.hi, by have := h.hj; omega, by have := h.hi; omega, h.lo, fun k h1 h2 => by
    by_cases e : k = j
    · rw [e]; exact hl
    · exact h.up k (by omega) h2⟩
theorem Prt.swap {a b i j : Nat} {xs : List Int} (h : Prt a b i j xs) (hb : b <= xs.length) (hij : i < j) (h1 : dx xs j <= dx xs a) (h2 : dx xs a <= dx xs i) : Prt a b (i + 1) (j - 1) (swp xs i j) := by
  have hi := h.hi;have hj := h.hj;have ea : dx (swp xs i j) a = dx xs a := by rw [Kbx (by omega) (by omega), if_neg (by omega), if_neg (by omega)]
  refine ⟨by omega, by omega, by omega, fun k k1 k2 => ?_, fun k k1 k2 => ?_⟩
  · rw [ea, Kbx (by omega) (by omega), if_neg (by omega)];by_cases e : k = i
    · rw [if_pos e]; exact h1
    · rw [if_neg e]; exact h.lo k k1 (by omega)
  · rw [ea, Kbx (by omega) (by omega)];by_cases e : k = j
    · rw [if_pos e]; exact h2
    · rw [if_neg e, if_neg (by omega)]; exact h.up k (by omega) k2
structure Mid (a b m : Nat) (xs : List Int) : Prop where
  hm : a <= m /\ m < b
  lo : ∀ k, a <= k -> k < m -> dx xs k <= dx xs m
  up : ∀ k, m < k -> k < b -> dx xs m <= dx xs k
def Out (a0 b0 a b : Nat) (xs : List Int) : Prop := ∀ p q, a0 <= p -> p < q -> q < b0 -> (p < a \/ b <= q) -> dx xs p <= dx xs q
theorem Out.start (a b : Nat) (xs : List Int) : Out a b a b xs := fun p q h1 h2 h3 h4 => by omega
theorem Out.pin {a0 b0 a b : Nat} {xs ys : List Int} (h : Out a0 b0 a b xs) (ha : a0 <= a) (hb : b <= b0) (hp : Pin a b xs ys) : Out a0 b0 a b ys := fun p q h1 h2 h3 h4 => by
  by_cases c1 : a <= p /\ p < b
  · obtain ⟨j, j1, j2, j3⟩ := hp.ins p c1.1 c1.2;rw [j3, hp.out q (by omega)];exact h j q (by omega) (by omega) h3 (by omega)
  · by_cases c2 : a <= q /\ q < b
    · obtain ⟨j, j1, j2, j3⟩ := hp.ins q c2.1 c2.2;rw [j3, hp.out p (by omega)];exact h p j h1 (by omega) (by omega) (by omega)
    · rw [hp.out p (by omega), hp.out q (by omega)];exact h p q h1 h2 h3 h4
theorem Out.done {a0 b0 a b : Nat} {xs : List Int} (h : Out a0 b0 a b xs) (hs : Srt a b xs) : Srt a0 b0 xs := fun p q h1 h2 h3 => by
  by_cases c : p < a \/ b <= q
  · exact h p q h1 h2 h3 c
  · exact hs p q (by omega) h2 (by omega)
theorem Out.left {a0 b0 a b m : Nat} {xs ys : List Int} (h : Out a0 b0 a b xs) (ha : a0 <= a) (hb : b <= b0) (hm : Mid a b m xs) (hp : Pin a m xs ys) (hs : Srt a m ys) : Out a0 b0 (m + 1) b ys := fun p q h1 h2 h3 h4 => by
  have hab := hm.hm;have h' := h.pin ha hb (hp.mono (Nat.le_refl _) (by omega));by_cases c : p < a \/ b <= q
  · exact h' p q h1 h2 h3 c
  · by_cases c1 : q < m
    · exact hs p q (by omega) h2 c1
    · have hpm : dx ys p <= dx ys m := by
        by_cases e : p = m
        · rw [e]; exact Int.le_refl _
        · obtain ⟨j, j1, j2, j3⟩ := hp.ins p (by omega) (by omega);rw [j3, hp.out m (by omega)];exact hm.lo j j1 j2
      by_cases e : q = m
      · rw [e]; exact hpm
      · refine Int.le_trans hpm ?_;rw [hp.out m (by omega), hp.out q (by omega)];exact hm.up q (by omega) (by omega)
theorem Out.right {a0 b0 a b m : Nat} {xs ys : List Int} (h : Out a0 b0 a b xs) (ha : a0 <= a) (hb : b <= b0) (hm : Mid a b m xs) (hp : Pin (m + 1) b xs ys) (hs : Srt (m + 1) b ys) : Out a0 b0 a m ys := fun p q h1 h2 h3 h4 => by
  have hab := hm.hm;have h' := h.pin ha hb (hp.mono (by omega) (Nat.le_refl _));by_cases c : p < a \/ b <= q
  · exact h' p q h1 h2 h3 c
  · by_cases c1 : m < p
    · exact hs p q (by omega) h2 (by omega)
    · have hmq : dx ys m <= dx ys q := by
        by_cases e : q = m
        · rw [e]; exact Int.le_refl _
        · obtain ⟨j, j1, j2, j3⟩ := hp.ins q (by omega) (by omega);rw [j3, hp.out m (by omega)];exact hm.up j (by omega) j2
      by_cases e : p = m
      · rw [e]; exact hmq
      · refine Int.le_trans ?_ hmq;rw [hp.out m (by omega), hp.out p (by omega)];exact hm.lo p (by omega) (by omega)
theorem Low.right {a b m : Nat} {xs ys : List Int} (hm : Mid a b m xs) (hp : Pin a m xs ys) : Low (m + 1) b ys := fun p q h1 h2 h3 => by
  rw [hp.out p (by omega), hp.out q (by omega), show p = m by omega];exact hm.up q (by omega) h3
theorem Low.left {a b m : Nat} {xs ys : List Int} (h : Low a b xs) (hm : m <= b) (hp : Pin (m + 1) b xs ys) (ham : a <= m) : Low a m ys := fun p q h1 h2 h3 => by
  rw [hp.out p (by omega), hp.out q (by omega)];exact h p q h1 h2 (by omega)
structure Eqs (a b m : Nat) (xs : List Int) : Prop where
  hm : a < m /\ m <= b
  lo : ∀ k, a <= k -> k < m -> dx xs k <= dx xs a
  up : ∀ k, m <= k -> k < b -> dx xs a <= dx xs k
theorem Eqs.low {a b m : Nat} {xs : List Int} (he : Eqs a b m xs) : Low m b xs := fun p q h1 h2 h3 => by
  have := he.hm;exact Int.le_trans (he.lo p (by omega) (by omega)) (he.up q h2 h3)
theorem Kd.ad {w : World} {B size n : Nat} {A : Option Addr} {xs : List Value} (h : Kd w B size A n xs) (hn : 0 < n) (hs : 0 < size) : ∃ b o, A = some ⟨b, o, none⟩ /\ b < B /\ ∀ (j : Nat) (u : Value), xs[j]? = some u -> w.cell? ⟨b, o + j, none⟩ = some u := by
  obtain ⟨⟨b, o, sp⟩, hA, hb, hc⟩ := h.2 hn;have hl : 0 < xs.length := by rw [h.1]; exact Nat.mul_pos hn hs
  have hsp : sp = none := by
    have := hc 0 xs[0] (List.getElem?_eq_getElem hl)
    simpa [Addr.add] using World.cell?_spot this
  subst hsp;refine ⟨b, o, hA, hb, fun j u hu => ?_⟩;have e : (⟨b, o, none⟩ : Addr).add j = ⟨b, o + j, none⟩ := by unfold Addr.add; split <;> simp_all
  rw [<- e];exact hc j u hu
section
variable {P : Program} {N : Fr} {Q : Exit -> Act -> World -> Prop} {E : Env} {w0 : Base} {L : List Pc} {ops : Array Oper} {l : List Oper} {o : Oper} {I : World -> Prop}
theorem Kec {t e : TypeId} {size : Nat} (ht : P.underlying t = some (.slice e)) (hs : ∀ w : World, (sizeOf e).run P w = .ok size w) {A : Option Addr} {b off : Nat} (hA : A = some ⟨b, off, none⟩) (n c i : Nat) (hi : i < n) {z : Int} (hz : z = (i : Int)) (w : World) :
    (Instr.indexAt t (.slice A n c) (.int .i64 z)).run P w = .ok (.pointer (some ⟨b, off + i * size, none⟩)) w := by
  subst hA hz;have h1 : (0 : Int) <= (i : Int) /\ (i : Int) < n := by omega
  have hadd : (⟨b, off, none⟩ : Addr).add (i * size) = ⟨b, off + i * size, none⟩ := by unfold Addr.add; split <;> simp_all
  simp [Instr.indexAt, run_underlying ht, asIntOf, hs, h1, hadd, go_sem]
  try (intro hh; exact absurd hh (by omega))
theorem Kkh {t u e e' : TypeId} (ht : P.underlying t = some (.slice e)) (hu : P.underlying u = some (.slice e')) (ty : TypeId) (vs : Array Value) (w : World) : (Builtin.append_ #[t, u] ty vs).run P w = (Builtin.append_ #[t, t] ty vs).run P w := by
  unfold Builtin.append_
  cases h0 : vs[0]? with
  | none => simp [h0]
  | some s =>
    cases h1 : vs[1]? with
    | none => simp [h0, h1]
    | some x =>
      cases s <;> simp [h0, h1, Sem.run_bind, run_underlying ht, run_underlying hu]
theorem TL.appendT {d k : Nat} {s x : Operand} {t u e e' : TypeId} {size bytes n c m cc : Nat} {A0 A : Option Addr} {olds news : List Value} (hg : o.guard = none) (hd : o.dst = some d) (hN : Nat.blt d N.n = true)
    (ho : o.op = .call { callee := .builtin .append, args := #[s, x], argTypes := #[t, u] }) (hu : P.underlying u = some (.slice e')) (hE : Elem P t e size bytes) (hs : ev E s = some (.slice A0 n c)) (hx : ev E x = some (.slice A m cc))
    (hk : L[k]? = some (.row (.slice A0 n c) e size n olds)) (hr : ∀ w, Pm w0 L w -> ∃ B, Kd w B size A m news) (h1 : ∀ u ∈ news, u.oneCell' = true) (hlim : (n + m) * bytes <= 140737488355328) (M : Nat) (hM : M = n + m) (res : List Value) (hres : olds ++ news = res)
    (h : ∀ A' c', M <= c' -> c' <= maxLen -> TL P N ops Q l ((d, .slice A' M c') :: E) (Pm w0 (L.set k (.row (.slice A' M c') e size M res)))) : TL P N ops Q (o :: l) E (Pm w0 L) := by
  subst hM hres;refine TL.run (α := { p : Option Addr × Nat // n + m <= p.2 /\ p.2 <= maxLen }) (r := fun p => .slice p.1.1 (n + m) p.1.2) (I' := fun p => Pm w0 (L.set k (.row (.slice p.1.1 (n + m) p.1.2) e size (n + m) (olds ++ news)))) hg hd hN (fun a w ha hw => ?_) (fun p => h p.1.1 p.1.2 p.2.1 p.2.2);obtain ⟨i, z, hi, hz, hsz, hby, hzs⟩ := hE.info;obtain ⟨B, hrd⟩ := hr w hw
  have hmx : n + m <= maxLen := by
    have : n + m <= (n + m) * bytes := Nat.le_mul_of_pos_right _ hE.big;unfold maxLen; omega
  obtain ⟨v', w', hrun, hown', hgr, hkey⟩ := Kfi (P := P) w w0.b t o.type e i z size bytes hE.und hi hz hsz hby hzs hE.pos _ n olds (hw.at_ hk) B A m cc news hrd h1 hmx hlim hw.base;rw [<- Kkh hE.und hu] at hrun;obtain ⟨A', c', rfl, hc1, hc2⟩ := KdZ hown';refine ⟨⟨(A', c'), hc1, hc2⟩, w', ?_, hw.turn hk hgr hown' (fun g hg => ?_) (fun k o e => ?_)⟩
  · unfold execOp; rw [ho];simp only [resolve, invoke, builtin, Sem.run_bind, Sem.run_pure, Result.andThen_ok, List.map_toArray, List.map_cons, List.map_nil, ha.eval hs, ha.eval hx, hrun]
  · rcases hkey with hkey | hkey
    · exact .inl (hkey.symm.trans hg)
    · right
      have : (Value.slice A' (n + m) c').ownBlock = some g := hg;rw [hkey] at this
      injection this with this
      omega
  · cases e
theorem TQ.on {R : Act -> Prop} {j d : Nat} {b : Bool} (hg : o.guard = some (j, b)) (hd : (ops[j]?).bind (·.dst) = some d) (hE : look E d = some (.bool b)) (h : TQ P N ops R ({ o with guard := none } :: l) E I) : TQ P N ops R (o :: l) E I := fun a ha => by
  have hw1 := Kcp ha hg hd hE;have := h a ha;unfold wpQuiet at this ⊢;rw [if_pos (by simp [Region.wanted])] at this;rw [if_pos (by simp [hw1])];exact this
theorem TQ.off {R : Act -> Prop} {j d t : Nat} {b b' : Bool} (hg : o.guard = some (j, b')) (hd : (ops[j]?).bind (·.dst) = some d) (hE : look E d = some (.bool b)) (hne : (b == b') = false) (ht : o.dst = some t) (hN : Nat.blt t N.n = true) (h : TQ P N ops R l ((t, undef) :: E) I) : TQ P N ops R (o :: l) E I := fun a ha => by
  have hw1 := Kcp ha hg hd hE;unfold wpQuiet;rw [if_neg (by rw [hw1, hne]; decide), ht];exact h _ (ha.put t undef (by simpa [Nat.blt_eq] using hN))
theorem TQ.offU {R : Act -> Prop} {j d t : Nat} {b' : Bool} (hg : o.guard = some (j, b')) (hd : (ops[j]?).bind (·.dst) = some d) (hE : look E d = some undef) (ht : o.dst = some t) (hN : Nat.blt t N.n = true) (h : TQ P N ops R l ((t, undef) :: E) I) : TQ P N ops R (o :: l) E I := fun a ha => by
  have h1 : yielded ops a.tmps j = none := by
    have := ha.slot d _ hE;simp [yielded, hd, this, undef]
  have hw1 : Region.wanted o (yielded ops a.tmps) = false := by
    unfold Region.wanted;rw [hg];simp [h1]
  unfold wpQuiet;rw [if_neg (by rw [hw1]; decide), ht];exact h _ (ha.put t undef (by simpa [Nat.blt_eq] using hN))
theorem KH {t : TypeId} {x : Operand} {b off size : Nat} {cs : List Value} (ho : o.op = .load t x) (hx : ev E x = some (.pointer (some ⟨b, off, none⟩))) (hag : ∀ w : World, (isAgg t).run P w = .ok true w) (hs : ∀ w : World, (sizeOf t).run P w = .ok size w) (hlen : cs.length = size)
    (hc : ∀ w, I w -> ∀ (j : Nat) (u : Value), cs[j]? = some u -> w.cell? ⟨b, off + j, none⟩ = some u) : Kl P N o E I (.agg cs.toArray) := fun a w ha hw => by
  unfold execOp; rw [ho];simp only [ha.eval hx]
  have hl := run_loadCells_list (P := P) w ⟨b, off, none⟩ cs (fun j v hj => by
    have hadd : (⟨b, off, none⟩ : Addr).add j = ⟨b, off + j, none⟩ := by unfold Addr.add; split <;> simp_all
    rw [hadd];exact hc w hw j v hj)
  rw [hlen] at hl;simp only [Instr.loadAt, Instr.sureAddr, Sem.run_bind, Sem.run_pure, Result.andThen_ok, loadVar, hag, hs, hl, if_true]
end
open Go.WideElems (Fit rg)
structure IMap (P : Program) (t k e : TypeId) (qk qe : IntKind) : Prop where
  ht : P.underlying t = some (.map k e)
  hk : P.underlying k = some (.int qk)
  he : P.underlying e = some (.int qe)
  hz : ∀ w : World, (zeroValue e).run P w = .ok (.int qe 0) w
def Kae (P : Program) (k e : TypeId) (qk qe : IntKind) (o : Obj) (n : Nat) (f : Int -> Option Int) : Prop :=
  ∃ (es : Array MapEntry) (clock : Nat) (D : DataW Unit), o = .map es clock /\ Fit (H := Unit) P k (plainElem P e) es clock /\ es.size = n /\ D = .map ((es.toList.map (rg P k (plainElem P e))).foldr DataW.insert []) /\
    ∀ a, (Lit.int qk a).wf = true -> Maps.has D (.int qk a) = (f a).isSome /\ D.atKey (.int qk a) (.lit (.int qe 0)) = .lit (.int qe ((f a).getD 0))
section
variable {P : Program} {t k e : TypeId} {qk qe : IntKind} {o : Obj} {n g : Nat} {f : Int -> Option Int} {w : World}
theorem Kae.owns (h : Kae P k e qk qe o n f) (hb : w.heap[g]? = some o) : ∃ D : DataW Unit, (w.ownsMap P k (plainElem P e) g n D /\ Maps.size D = n) /\ ∀ a, (Lit.int qk a).wf = true -> Maps.has D (.int qk a) = (f a).isSome /\ D.atKey (.int qk a) (.lit (.int qe 0)) = .lit (.int qe ((f a).getD 0)) := by
  obtain ⟨es, clock, D, rfl, F, hs, hD, hf⟩ := h;exact ⟨D, ⟨⟨es, clock, hb, F, Nat.le_of_eq hs, hD⟩, by rw [hD, <- hs]; rw [Maps.size, length_read]⟩, hf⟩
theorem Kae.of_owns {D : DataW Unit} {m : Nat} (h : w.ownsMap P k (plainElem P e) g n D) (hm : Maps.size D = m) (hf : ∀ a, (Lit.int qk a).wf = true -> Maps.has D (.int qk a) = (f a).isSome /\ D.atKey (.int qk a) (.lit (.int qe 0)) = .lit (.int qe ((f a).getD 0))) : ∃ o, w.heap[g]? = some o /\ Kae P k e qk qe o m f := by
  obtain ⟨es, clock, hb, F, hs, hD⟩ := h;exact ⟨_, hb, es, clock, D, rfl, F, by rw [<- hm, hD]; rw [Maps.size, length_read], hD, hf⟩
theorem KhV (P : Program) (k e : TypeId) (qk qe : IntKind) : Kae P k e qk qe (.map #[] 0) 0 (fun _ => none) := by
  let w : World := default
  obtain ⟨o, ho, hm⟩ := Kae.of_owns (qk := qk) (qe := qe) (f := fun _ => none) (World.ownsMap_made (H := Unit) w P k (plainElem P e)) rfl (fun a _ => ⟨rfl, rfl⟩)
  have : o = .map #[] 0 := by
    have h2 := heap_alloc_new w (.map #[] 0);rw [ho] at h2;exact Option.some.inj h2
  rw [<- this];exact hm
theorem Kae.look (h : Kae P k e qk qe o n f) (T : IMap P t k e qk qe) (hb : w.heap[g]? = some o) {a : Int} (ha : (Lit.int qk a).wf = true) : (Instr.lookup t (.map (some g)) (.int qk a) false).run P w = .ok (.int qe ((f a).getD 0)) w := by
  obtain ⟨D, ⟨hD, hsz⟩, hf⟩ := h.owns hb;obtain ⟨c, hrun, hat, _⟩ := hD.lookup_int (Maps.int_keyed T.hk) T.ht T.he (T.hz w) (Maps.keyOf_int_mk T.hk ha);rw [(hf a ha).2] at hat;have : (f a).getD 0 = c := by injection hat with hat; injection hat
  rw [this];exact hrun
theorem Kae.put (h : Kae P k e qk qe o n f) (T : IMap P t k e qk qe) (hn : n < maxLen) (hb : w.heap[g]? = some o) {a b : Int} (ha : (Lit.int qk a).wf = true) (hbw : (Lit.int qe b).wf = true) :
    ∃ o' w', (Instr.mapUpdate t (.map (some g)) (.int qk a) (.int qe b)).run P w = .ok () w' /\ w'.heap[g]? = some o' /\ Kae P k e qk qe o' (if (f a).isSome then n else n + 1) (fun z => if z = a then some b else f z) /\ w.grownBy w' (some g) := by
  obtain ⟨D, ⟨hD, hsz⟩, hf⟩ := h.owns hb;have hk := Maps.keyOf_int_mk T.hk ha;obtain ⟨w', hrun, hD', hg⟩ := hD.update (Maps.int_keyed T.hk) T.ht hn hk (plainElem_int T.he hbw)
  obtain ⟨o', ho', hm'⟩ := Kae.of_owns (qk := qk) (qe := qe) (f := fun z => if z = a then some b else f z) hD' (by rw [Maps.size_put (hD.tidy (Maps.int_keyed T.hk)), hsz, (hf a ha).1]) (fun z hz => by
    by_cases e1 : z = a
    · subst e1;rw [if_pos rfl];exact ⟨Maps.has_put_same hD.isMap ((Maps.int_keyed T.hk).key hk) _, Maps.atKey_put_same hD.isMap ((Maps.int_keyed T.hk).key hk) _ _⟩
    · have hne : (Lit.int qk z) ≠ .int qk a := fun hh => e1 (by injection hh);rw [if_neg e1, Maps.has_put_other hne, Maps.atKey_put_other hne];exact hf z hz)
  exact ⟨o', w', hrun, ho', hm', hg⟩
end
section
variable {P : Program} {N : Fr} {Q : Exit -> Act -> World -> Prop} {E : Env} {w0 : Base} {L : List Pc} {ops : Array Oper} {l : List Oper} {o : Oper} {w w' : World}
def KcD (w0 : Base) (g : Nat) : Prop := ∀ o, w0.w.heap[g]? = some o -> o.isCells = true
theorem KlG {w0 : Base} {g : Nat} (h : w0.w.heap.size <= g) : KcD w0 g := fun o ho => by
  have := (Array.getElem?_eq_some_iff.1 ho).1;omega
theorem Pm.turnO (h : Pm w0 L w) {k g : Nat} {ob ob' : Obj} (hk : L[k]? = some (.oth g ob)) (hnew : KcD w0 g) (hg : w.grownBy w' (some g)) (hb : w'.heap[g]? = some ob') : Pm w0 (L.set k (.oth g ob')) w' := by
  have hpo := h.at_ hk;refine ⟨h.bel.grown hg h.base fun j e => by cases e; exact hpo.2, fun q hq => ?_, ?_, ⟨Nat.le_trans h.oth.size hg.size, fun j x hj hx => ?_⟩, h.low⟩
  · obtain ⟨i, hi⟩ := List.getElem?_of_mem hq;rw [List.getElem?_set] at hi;by_cases e : k = i
    · subst e;have hlt := (List.getElem?_eq_some_iff.1 hk).1;simp [hlt] at hi;subst hi;exact ⟨hb, hpo.2⟩
    · rw [if_neg e] at hi;refine Pc.same (h.at_ hi) (fun j hj => hg.block j (Pc.lt (h.at_ hi) j hj).2 fun he => ?_) (fun j hj => hg.block j (Nat.lt_of_lt_of_le hj h.base) fun he => ?_)
      · cases he;exact h.neq hk hi e g rfl hj
      · cases he;have := hpo.2;omega
  · refine List.pairwise_iff_getElem.2 fun i j hi hj hij x hxi hxj => ?_
    have key : ∀ (m : Nat) (hm : m < (L.set k (.oth g ob')).length), ((L.set k (.oth g ob'))[m]).key = (L[m]'(by simpa using hm)).key := fun m hm => by
      rw [List.getElem_set];split
      · rename_i e;subst e;rw [(List.getElem?_eq_some_iff.1 hk).2]
        rfl
      · rfl
    rw [key] at hxi hxj;exact List.pairwise_iff_getElem.1 h.apart i j (by simpa using hi) (by simpa using hj) hij x hxi hxj
  · have h1 := h.oth.same j x hj hx;exact (hg.block j (Array.getElem?_eq_some_iff.1 h1).1 fun he => by cases he; rw [hnew x hj] at hx; cases hx).trans h1
theorem TL.mkmap {d : Nat} {t : TypeId} (hg : o.guard = none) (hd : o.dst = some d) (hN : Nat.blt d N.n = true) (ho : o.op = .makeMap t none)
    (h : ∀ g, KcD w0 g -> TL P N ops Q l ((d, .map (some g)) :: E) (Pm w0 (.oth g (.map #[] 0) :: L))) : TL P N ops Q (o :: l) E (Pm w0 L) :=
  TL.run (α := {g : Nat // w0.w.heap.size <= g}) (r := fun g => .map (some g.1)) (I' := fun g => Pm w0 (.oth g.1 (.map #[] 0) :: L)) hg hd hN (fun a w ha hw => by
    refine ⟨⟨w.heap.size, hw.oth.size⟩, w.alloc (.map #[] 0), ?_, hw.add ((Below.refl _ _).alloc (Nat.le_refl _) _) ⟨heap_alloc_new w _, Nat.le_refl _⟩⟩;unfold execOp; rw [ho]
    rfl) (fun g => h g.1 (KlG g.2))
theorem KjY {x y : Operand} {t k e : TypeId} {qk qe : IntKind} {g i n : Nat} {ob : Obj} {f : Int -> Option Int} {a : Int} (ho : o.op = .lookup t x y false) (hx : ev E x = some (.map (some g))) (hy : ev E y = some (.int qk a)) (T : IMap P t k e qk qe) (hk : L[i]? = some (.oth g ob)) (hm : Kae P k e qk qe ob n f) (ha : (Lit.int qk a).wf = true) :
    Kl P N o E (Pm w0 L) (.int qe ((f a).getD 0)) := fun ac w hac hw => by
  unfold execOp; rw [ho];simp only [hac.eval hx, hac.eval hy, hm.look T (hw.at_ hk).1 ha, Sem.run_bind, Result.andThen_ok, Sem.run_pure]
theorem TL.mapset {x y z : Operand} {t k e : TypeId} {qk qe : IntKind} {g i n : Nat} {ob : Obj} {f : Int -> Option Int} {a b : Int} (hg : o.guard = none) (hd : o.dst = none) (ho : o.op = .mapUpdate t x y z) (hx : ev E x = some (.map (some g))) (hy : ev E y = some (.int qk a)) (hz : ev E z = some (.int qe b))
    (T : IMap P t k e qk qe) (hk : L[i]? = some (.oth g ob)) (hnew : KcD w0 g) (hm : Kae P k e qk qe ob n f) (hn : n < maxLen) (ha : (Lit.int qk a).wf = true) (hb : (Lit.int qe b).wf = true)
    (h : ∀ ob', Kae P k e qk qe ob' (if (f a).isSome then n else n + 1) (fun v => if v = a then some b else f v) -> TL P N ops Q l E (Pm w0 (L.set i (.oth g ob')))) : TL P N ops Q (o :: l) E (Pm w0 L) := fun ac w hac hw =>
  wpList_plain hg fun K hK => by
    obtain ⟨ob', w', hrun, hob, hm', hgr⟩ := hm.put T hn (hw.at_ hk).1 ha hb
    have hex : (execOp ac.eval o).run P w = .ok .skip w' := by
      unfold execOp; rw [ho];simp only [hac.eval hx, hac.eval hy, hac.eval hz, Sem.run_bind, hrun, Result.andThen_ok, Sem.run_pure]
    unfold Oper.wp;rw [hex];show K (ac.put o.dst undef) _;rw [hd];exact hK _ _ (h ob' hm' _ _ (hac.put0 _) (hw.turnO hk hnew hgr hob))
def Kap (w : World) (g : Nat) : World := { w with heap := w.heap.setIfInBounds g (.cells #[] 0) }
theorem Kes {w : World} {g k : Nat} (h : k ≠ g) : (Kap w g).heap[k]? = w.heap[k]? := by
  show (w.heap.setIfInBounds g _)[k]? = _;rw [Array.getElem?_setIfInBounds_ne (fun e => h e.symm)]
theorem KdH (w : World) (g : Nat) : (Kap w g).heap.size = w.heap.size := by simp [Kap]
theorem Pm.mapStart {w : World} {g : Nat} {ob : Obj} (hb : w.heap[g]? = some ob) : Pm ⟨Kap w g, g⟩ (.oth g ob :: Kr g w) w := by
  have hlt := (Array.getElem?_eq_some_iff.1 hb).1;refine ⟨⟨rfl, rfl, rfl, Nat.le_of_eq (KdH w g), fun k hk => (Kes (Nat.ne_of_lt hk)).symm⟩, fun q hq => ?_, List.Pairwise.cons (fun q hq x hx he => ?_) (Kfn g w), ⟨Nat.le_of_eq (KdH w g), fun k o hk ho => ?_⟩, by rw [KdH]; exact Nat.le_of_lt hlt⟩
  · rcases List.mem_cons.1 hq with rfl | hq
    · exact ⟨hb, Nat.le_refl _⟩
    · obtain ⟨k, o, rfl, h1, h2⟩ := KdY hq;exact ⟨h2, Nat.le_of_lt h1⟩
  · obtain ⟨k, o, rfl, h1, h2⟩ := KdY hq;simp only [Pc.key, Option.some.injEq] at hx he;omega
  · by_cases e : k = g
    · subst e;have : (Kap w k).heap[k]? = some (.cells #[] 0) := by show (w.heap.setIfInBounds k _)[k]? = _; simp [hlt]
      rw [this] at hk;cases hk;cases ho
    · rw [<- Kes e]; exact hk
theorem Pm.mapEnd {w w1 : World} {g : Nat} {L : List Pc} (h : Pm ⟨Kap w g, g⟩ L w1) (hs : ∀ q ∈ Kr g w, q ∈ L) : w.grownBy w1 (some g) := by
  refine ⟨h.bel.os, h.bel.tape, h.bel.output, by have := h.bel.size; rwa [KdH] at this, fun k hk hne => ?_⟩;rcases Nat.lt_trichotomy k g with h1 | h1 | h1
  · exact (h.bel.block k h1).trans (Kes (Nat.ne_of_lt h1))
  · exact absurd (by rw [h1]) hne
  · obtain ⟨o, ho, hm⟩ := KeK h1 hk;exact ((h.own _ (hs _ hm)).1).trans ho.symm
end
def uv (xs : List Int) : List Value := xs.map (Value.int .u32)
theorem Kjv (xs : List Int) : (uv xs).length = xs.length := by simp [uv]
def Rw (e : TypeId) (w : World) (g n c : Nat) (xs : List Int) : Prop := w.ownsRow g e 1 (.slice (some ⟨g, 0, none⟩) n c) n (uv xs)
theorem Rw.len {e : TypeId} {w : World} {g n c : Nat} {xs : List Int} (h : Rw e w g n c xs) : xs.length = n := by
  have := h.1;rw [Kjv] at this;omega
theorem Rw.obj {e : TypeId} {w : World} {g n c : Nat} {xs : List Int} (h : Rw e w g n c xs) : (∃ o, w.heap[g]? = some o) /\ n <= c /\ c <= maxLen := by
  rcases h.2 with ⟨e1, _⟩ | ⟨g', cap, cur, a, hb, hg, hn, hm, r⟩
  · cases e1
  · cases a;exact ⟨⟨_, hg⟩, hn, hm⟩
section
variable {P : Program} {N : Fr} {Q : Exit -> Act -> World -> Prop} {E : Env} {w0 : Base} {L : List Pc} {ops : Array Oper} {l : List Oper} {o : Oper}
theorem KiO {t e : TypeId} (ht : P.underlying t = some (.slice e)) (hs : ∀ w : World, (sizeOf e).run P w = .ok 1 w) (g n c i : Nat) (hi : i < n) {z : Int} (hz : z = (i : Int)) (w : World) :
    (Instr.indexAt t (.slice (some ⟨g, 0, none⟩) n c) (.int .i64 z)).run P w = .ok (.pointer (some ⟨g, i, none⟩)) w := by
  have := Kec (P := P) ht hs (A := some ⟨g, 0, none⟩) (b := g) (off := 0) rfl n c i hi hz w;rwa [Nat.zero_add, Nat.mul_one] at this
end
section
variable {P : Program} {N : Fr} {Q : Exit -> Act -> World -> Prop} {E : Env} {w0 : Base} {L : List Pc} {ops : Array Oper} {l : List Oper} {o : Oper}
theorem TL.rowclear {t e : TypeId} {s : Operand} {g off k n c m cc size : Nat} {z : Value} {xs zs : List Value} (hg : o.guard = none) (hd : o.dst = none) (ho : o.op = .call { callee := .builtin .clear, args := #[s], argTypes := #[t] }) (hs : ev E s = some (.slice (some ⟨g, off, none⟩) m cc))
    (ht : P.underlying t = some (.slice e)) (hz : ∀ w : World, (zeroValue e).run P w = .ok z w) (hzs : (Builtin.zeroCells z.cells m).toList = zs) (h1 : ∀ u ∈ zs, u.oneCell' = true) (hm : 0 < m)
    (hk : L[k]? = some (.row (.slice (some ⟨g, 0, none⟩) n c) e size n xs)) (hl : off + zs.length <= xs.length) {xs' : List Value} (hL : xs.take off ++ zs ++ xs.drop (off + zs.length) = xs')
    (h : TL P N ops Q l E (Pm w0 (L.set k (.row (.slice (some ⟨g, 0, none⟩) n c) e size n xs')))) : TL P N ops Q (o :: l) E (Pm w0 L) := fun a w ha hw =>
  wpList_plain hg fun K hK => by
    subst hL;obtain ⟨cur, hcur, hfit, hown⟩ := KdR (hw.at_ hk) hl
    have hrun : (execOp a.eval o).run P w = .ok (.value (.tuple #[])) (w.setRow g (cur.toList.take off ++ zs ++ cur.toList.drop (off + zs.length)).toArray) := by
      unfold execOp; rw [ho];have hst := run_storeCells_at (P := P) g off e zs 0 cur w hcur (by simpa using hfit) h1;simp only [Nat.add_zero] at hst;obtain ⟨m', rfl⟩ : ∃ m', m = m' + 1 := ⟨m - 1, by omega⟩;simp only [resolve, invoke, builtin, Sem.run_bind, Sem.run_pure, Result.andThen_ok, List.map_toArray, List.map_cons, List.map_nil, ha.eval hs];unfold Builtin.clear_;simp [go_sem, run_underlying ht, hz];show ((Sem.run P (storeCells _ (Builtin.zeroCells z.cells (m' + 1)).toList) w).andThen _).andThen _ = _;rw [hzs, hst, List.append_assoc]
      rfl
    unfold Oper.wp;rw [hrun];show K (a.put o.dst _) _;rw [hd];exact hK _ _ (h _ _ (ha.put0 _) (hw.turn hk (Kc7 _ _) hown (fun g' hg' => .inl hg') (fun k o e => by cases e)))
end
section
variable {P : Program} {N : Fr} {Q : Exit -> Act -> World -> Prop} {E : Env} {I : World -> Prop} {ops : Array Oper} {l : List Oper} {o : Oper}
def Ent (P : Program) (N : Fr) (E : Env) (o : Oper) (f : FuncId) (us : Array Value) : Prop := ∀ a w, EnvOk N E a -> (execOp a.eval o).run P w = .ok (.enter f us) w
theorem KhT {x : Operand} {xs : List Operand} {ts : Array TypeId} {vs : List Value} {f : FuncId} {fn : Func} {first cap us : Array Value} (ho : o.op = .call { callee := .value x, args := xs.toArray, argTypes := ts }) (hv : ev E x = some (.func (.func f) first cap)) (hx : evs E xs = some vs)
    (hf : P.funcs[f]? = some fn) (hn : (fn.name == "runtime.NumGoroutine") = false) (hb : fn.body.isNone = false) (hu : first ++ vs.toArray ++ cap = us) : Ent P N E o f us := fun a w ha => by
  unfold execOp; rw [ho];have harr : xs.toArray.map a.eval = vs.toArray := by rw [List.map_toArray, ha.evals hx]
  subst hu;simp only [resolve, harr, ha.eval hv, Deferred.ofValue];have hn' : ¬ fn.name = "runtime.NumGoroutine" := by simpa using hn
  have hb' : ¬ fn.body = none := by intro e; rw [e] at hb; simp at hb
  simp [invoke, callFunc, hf, hn', hb', go_sem]
theorem TL.callE {α : Type} {d : Nat} {f : FuncId} {us : Array Value} {r : α -> Value} {I' : α -> World -> Prop} (hg : o.guard = none) (hd : o.dst = some d) (hN : Nat.blt d N.n = true) (he : Ent P N E o f us)
    (hc : ∀ w, I w -> Calls P f us w fun e w' => ∃ x, e = .returned (r x) /\ I' x w') (h : ∀ x, TL P N ops Q l ((d, r x) :: E) (I' x)) : TL P N ops Q (o :: l) E I := fun a w ha hw =>
  wpList_plain hg fun K hK => by
    unfold Oper.wp;rw [he a w ha, Oper.upon_enter];refine (hc w hw).mono ?_;rintro e w' ⟨x, rfl, hI⟩;show K (a.put o.dst (r x)) w';rw [hd];exact hK _ _ (h x _ _ (ha.put d _ (by simpa [Nat.blt_eq] using hN)) hI)
theorem TL.callE1 {w0 : Base} {L : List Pc} {d : Nat} {f : FuncId} {us : Array Value} {r : Value} (hg : o.guard = none) (hd : o.dst = some d) (hN : Nat.blt d N.n = true) (he : Ent P N E o f us)
    (hc : ∀ w, Pm w0 L w -> Calls P f us w fun e w' => e = .returned r /\ Below w.heap.size w w') (h : TL P N ops Q l ((d, r) :: E) (Pm w0 L)) : TL P N ops Q (o :: l) E (Pm w0 L) :=
  TL.callE (α := Unit) (r := fun _ => r) (I' := fun _ => Pm w0 L) hg hd hN he (fun w hw => (hc w hw).mono fun e w' ⟨he, hb⟩ => ⟨(), he, hw.below hb⟩) (fun _ => h)
end
section
variable {P : Program} {N : Fr} {Q : Exit -> Act -> World -> Prop} {E : Env} {w0 : Base} {L : List Pc} {ops : Array Oper} {l : List Oper} {o : Oper}
theorem TL.shift {d k g n c cc i j size bytes : Nat} {t e : TypeId} {s x : Operand} {A : Option Addr} {xs : List Value} (hg : o.guard = none) (hd : o.dst = some d) (hN : Nat.blt d N.n = true)
    (ho : o.op = .call { callee := .builtin .append, args := #[s, x], argTypes := #[t, t] }) (hE : Elem P t e size bytes) (hs : ev E s = some (.slice (some ⟨g, 0, none⟩) i c)) (hx : ev E x = some (.slice A (n - j) cc))
    (hk : L[k]? = some (.row (.slice (some ⟨g, 0, none⟩) n c) e size n xs)) (hA : j < n -> A = some ⟨g, j * size, none⟩) (hA0 : A ≠ none) (hij : i <= j) (hj : j <= n) (hnc : n <= c) (h1 : ∀ u ∈ xs, u.oneCell' = true) {xs' : List Value}
    (hL : xs.take (i * size) ++ xs.drop (j * size) ++ xs.drop (i * size + (xs.drop (j * size)).length) = xs') {M : Nat} (hM : M = i + (n - j))
    (h : TL P N ops Q l ((d, .slice (some ⟨g, 0, none⟩) M c) :: E) (Pm w0 (L.set k (.row (.slice (some ⟨g, 0, none⟩) n c) e size n xs')))) : TL P N ops Q (o :: l) E (Pm w0 L) := by
  subst hL hM;refine TL.run (α := Unit) (r := fun _ => .slice (some ⟨g, 0, none⟩) (i + (n - j)) c) (I' := fun _ => Pm w0 (L.set k (.row (.slice (some ⟨g, 0, none⟩) n c) e size n (xs.take (i * size) ++ xs.drop (j * size) ++ xs.drop (i * size + (xs.drop (j * size)).length))))) hg hd hN (fun a w ha hw => ?_) (fun _ => h);obtain ⟨ti, z, hi, hz, hsz, hby, hzs⟩ := hE.info;have hrow := hw.at_ hk;have hlen : xs.length = n * size := hrow.1;have hdl : (xs.drop (j * size)).length = (n - j) * size := by rw [List.length_drop, hlen, Nat.sub_mul]
  have hfit : i * size + (xs.drop (j * size)).length <= xs.length := by
    rw [hdl, hlen, <- Nat.add_mul];exact Nat.mul_le_mul_right _ (by omega)
  obtain ⟨cur, hcur, hfc, hown⟩ := KdR hrow hfit
  obtain ⟨ad, rfl⟩ : ∃ ad, A = some ad := by
    cases A with
    | none => exact absurd rfl hA0
    | some ad => exact ⟨ad, rfl⟩
  refine ⟨(), w.setRow g (cur.toList.take (i * size) ++ xs.drop (j * size) ++ cur.toList.drop (i * size + (xs.drop (j * size)).length)).toArray, ?_, hw.turn hk (Kc7 _ _) hown (fun g' hg' => .inl hg') (fun k o e => by cases e)⟩;unfold execOp; rw [ho]
  have hrun := run_append_room (P := P) w t o.type e ti hE.und hi g i c cur hcur ad (n - j) cc (xs.drop (j * size)) (by rw [hdl, hsz]) (fun q u hu => by
    have hjn : j < n := by
      rcases Nat.lt_or_ge j n with hh | hh
      · exact hh
      · have : (xs.drop (j * size)).length = 0 := by rw [hdl, Nat.sub_eq_zero_of_le hh, Nat.zero_mul]
        rw [List.eq_nil_of_length_eq_zero this] at hu;cases hu
    have := hA hjn;cases this;rw [List.getElem?_drop] at hu;have h3 := Kd7 hw hk hu;rw [<- h3]
    congr 1
    unfold Addr.add; split <;> simp_all) (fun u hu => h1 u (List.mem_of_mem_drop hu)) (by omega) (by rw [hsz]; exact hfc)
  rw [hsz] at hrun;simp only [resolve, invoke, builtin, Sem.run_bind, Sem.run_pure, Result.andThen_ok, List.map_toArray, List.map_cons, List.map_nil, ha.eval hs, ha.eval hx, hrun]
end
theorem Pm.permute {w0 : Base} {w : World} {L L' : List Pc} (h : Pm w0 L w) (hp : L.Perm L') : Pm w0 L' w :=
  ⟨h.bel, fun q hq => h.own q (hp.mem_iff.2 hq), (hp.pairwise_iff (fun {p q} hpq g hg he => hpq g he hg)).1 h.apart, h.oth, h.low⟩
structure Sg (α : Type) where
  A : Option Addr
  c : Nat
  l : List α
def Sg.val {α : Type} (s : Sg α) : Value := .slice s.A s.l.length s.c
def Sg.nil (α : Type) : Sg α := ⟨none, 0, []⟩
def Sg.pc {α : Type} (e : TypeId) (size : Nat) (enc : List α -> List Value) (s : Sg α) : Pc := .row (.slice s.A s.l.length s.c) e size s.l.length (enc s.l)
def Kal {α : Type} (e : TypeId) (size : Nat) (enc : List α -> List Value) (ss : List (Sg α)) : List Pc := ss.map (Sg.pc e size enc)
section
variable {α : Type} {e : TypeId} {size : Nat} {enc : List α -> List Value} {w0 : Base} {w : World} {P : List Pc} {ss : List (Sg α)} {s : Sg α} {k : Nat}
theorem Kkd (ss : List (Sg α)) : Kaw (Kal e size enc ss) = true := by
  simp only [Kaw, Kal, List.all_map, List.all_eq_true];intro s _
  rfl
theorem Pm.head {w0 : Base} {w : World} {P Q : List Pc} (h : Pm w0 (P ++ Q) w) : Pm w0 P w := h.sel (List.sublist_append_left _ _)
theorem Kak {w0 : Base} {L : List Pc} {A : Option Addr} {n c : Nat} {xs : List Value} {e : TypeId} {size : Nat} (h : Pm w0 L w) (hk : L[k]? = some (.row (.slice A n c) e size n xs)) (hn : 0 < n) : ∃ g, A = some ⟨g, 0, none⟩ := by
  rcases (h.at_ hk).2 with ⟨e1, h2⟩ | ⟨g, cap, cur, a, r⟩
  · cases e1; omega
  · cases a; exact ⟨g, rfl⟩
end
section
variable {P : Program} {N : Fr} {Q : Exit -> Act -> World -> Prop} {E : Env} {ops : Array Oper} {l : List Oper} {o : Oper} {I : World -> Prop}
end
def Ka {α : Type} (c : α -> List Value) (l : List α) : List Value := l.flatMap c
structure Cel {α : Type} (c : α -> List Value) (k : Nat) : Prop where
  len : ∀ x, (c x).length = k
  one : ∀ x, ∀ u ∈ c x, u.oneCell' = true
def ic (q : IntKind) (a : Int) : List Value := [.int q a]
theorem KO (q : IntKind) : Cel (ic q) 1 := ⟨fun _ => rfl, fun x u hu => by cases List.mem_singleton.1 hu; rfl⟩
def sgc {α : Type} (s : Sg α) : List Value := [s.val]
theorem KbA {α : Type} : Cel (sgc (α := α)) 1 := ⟨fun _ => rfl, fun x u hu => by cases List.mem_singleton.1 hu; rfl⟩
theorem KkA (q : IntKind) (xs : List Int) : Ka (ic q) xs = xs.map (Value.int q) := by
  induction xs with
  | nil => rfl
  | cons a l ih => show _ :: Ka (ic q) l = _; rw [ih]; rfl
section
variable {α : Type} {c : α -> List Value} {k : Nat}
theorem KF (a b : List α) : Ka c (a ++ b) = Ka c a ++ Ka c b := by simp [Ka]
theorem KcQ (a : α) (b : List α) : Ka c (a :: b) = c a ++ Ka c b := rfl
theorem KlC (a : α) : Ka c [a] = c a := by simp [Ka]
theorem Kau (K : Cel c k) (l : List α) : (Ka c l).length = l.length * k := by
  induction l with
  | nil => simp [Ka]
  | cons f l ih => rw [KcQ, List.length_append, ih, K.len, List.length_cons, Nat.succ_mul, Nat.add_comm]
theorem KcT (K : Cel c k) : ∀ {l : List α} {i : Nat} {x : α} (h : l[i]? = some x) (j : Nat) (hj : j < k), (Ka c l)[i * k + j]? = (c x)[j]?
  | [], _, _, h, _, _ => by cases h
  | y :: l, 0, x, h, j, hj => by
    obtain rfl : y = x := by simpa using h
    rw [KcQ, Nat.zero_mul, Nat.zero_add, List.getElem?_append_left (by rw [K.len]; exact hj)]
  | y :: l, i + 1, x, h, j, hj => by
    rw [KcQ, List.getElem?_append_right (by rw [K.len, Nat.succ_mul]; omega), K.len, show (i + 1) * k + j - k = i * k + j by rw [Nat.succ_mul]; omega];exact KcT K (by simpa using h) j hj
theorem Ka4 (K : Cel c k) {l : List α} {i : Nat} {x : α} (h : l[i]? = some x) {w : World} {b o : Nat} (hc : ∀ (j : Nat) (u : Value), (Ka c l)[j]? = some u -> w.cell? ⟨b, o + j, none⟩ = some u) (j : Nat) (u : Value) (hu : (c x)[j]? = some u) : w.cell? ⟨b, o + i * k + j, none⟩ = some u := by
  have hj : j < k := by have := (List.getElem?_eq_some_iff.1 hu).1; rwa [K.len] at this
  rw [Nat.add_assoc];exact hc _ u (by rw [KcT K h j hj]; exact hu)
theorem KB (K : Cel c k) (l : List α) : ∀ u ∈ Ka c l, u.oneCell' = true := by
  intro u hu;simp only [Ka, List.mem_flatMap] at hu;obtain ⟨f, _, hu⟩ := hu;exact K.one f u hu
theorem Ku (K : Cel c k) {w0 : Base} {L : List Pc} {w : World} {q g n cc i : Nat} {e : TypeId} {l : List α} {x : α} (h : Pm w0 L w) (hk : L[q]? = some (.row (.slice (some ⟨g, 0, none⟩) n cc) e k n (Ka c l))) (hx : l[i]? = some x) (j : Nat) (u : Value) (hu : (c x)[j]? = some u) : w.cell? ⟨g, 0 + i * k + j, none⟩ = some u := by
  have hj : j < k := by have := (List.getElem?_eq_some_iff.1 hu).1; rwa [K.len] at this
  rw [Nat.zero_add];exact Kd7 h hk (by rw [KcT K hx j hj]; exact hu)
theorem KcC (K : Cel c k) (l : List α) (i : Nat) : (Ka c l).take (i * k) = Ka c (l.take i) := by
  induction l generalizing i with
  | nil => simp [Ka]
  | cons f l ih =>
    cases i with
    | zero => rw [Nat.zero_mul]; rfl
    | succ i => rw [KcQ, List.take_append, List.take_of_length_le (by rw [K.len, Nat.succ_mul]; omega), K.len, show (i + 1) * k - k = i * k by rw [Nat.succ_mul]; omega, ih]; rfl
theorem Kfk (K : Cel c k) (l : List α) (i : Nat) : (Ka c l).drop (i * k) = Ka c (l.drop i) := by
  induction l generalizing i with
  | nil => simp [Ka]
  | cons f l ih =>
    cases i with
    | zero => rw [Nat.zero_mul]; rfl
    | succ i => rw [KcQ, List.drop_append, List.drop_of_length_le (by rw [K.len, Nat.succ_mul]; omega), K.len, show (i + 1) * k - k = i * k by rw [Nat.succ_mul]; omega, ih, List.nil_append]; rfl
theorem Kha (K : Cel c k) {m : List α} {i : Nat} {x : α} (hx : m[i]? = some x) : Ka c m = Ka c (m.take i) ++ c x ++ Ka c (m.drop (i + 1)) /\ (Ka c (m.take i)).length = i * k := by
  obtain ⟨hlt, e⟩ := List.getElem?_eq_some_iff.1 hx;refine ⟨?_, by rw [Kau K, List.length_take, Nat.min_eq_left (by omega)]⟩;have h1 : m = m.take i ++ x :: m.drop (i + 1) := by rw [<- e, List.getElem_cons_drop, List.take_append_drop]
  rw [<- KlC (c := c) x, <- KF, <- KF];rw [List.append_assoc];exact congrArg (Ka c) h1
theorem KkK {P c T v : List Value} {k q : Nat} (hP : P.length = k) (hq : q + v.length <= c.length) : (P ++ c ++ T).take (0 + k + q) ++ v ++ (P ++ c ++ T).drop (0 + k + q + v.length) = P ++ (c.take q ++ v ++ c.drop (q + v.length)) ++ T := by
  subst hP
  have h1 : (P ++ c ++ T).take (0 + P.length + q) = P ++ c.take q := by
    rw [List.append_assoc, show 0 + P.length + q = P.length + q by omega, List.take_append, List.take_of_length_le (by omega), Nat.add_sub_cancel_left, List.take_append_of_le_length (by omega)]
  have h2 : (P ++ c ++ T).drop (0 + P.length + q + v.length) = c.drop (q + v.length) ++ T := by
    rw [List.append_assoc, show 0 + P.length + q + v.length = P.length + (q + v.length) by omega, <- List.drop_drop, List.drop_left, List.drop_append_of_le_length hq]
  rw [h1, h2];simp only [List.append_assoc]
theorem Kdc (K : Cel c k) {m : List α} {i q : Nat} {x y : α} {v : List Value} (hx : m[i]? = some x) (hq : q + v.length <= k) (hy : (c x).take q ++ v ++ (c x).drop (q + v.length) = c y) : (Ka c m).take (0 + i * k + q) ++ v ++ (Ka c m).drop (0 + i * k + q + v.length) = Ka c (m.set i y) := by
  obtain ⟨h1, h2⟩ := Kha K hx;have hlt := (List.getElem?_eq_some_iff.1 hx).1;rw [h1, KkK h2 (by rw [K.len]; exact hq), hy, List.set_eq_take_append_cons_drop, if_pos hlt, KF, List.append_assoc]
  rfl
end
theorem Pm.pickT {w0 : Base} {w : World} {L P' T : List Pc} (h : Pm w0 L w) (n : Nat) (ks : List Nat) (hn : ks.Nodup) (hlt : ∀ k ∈ ks, k < n) (he : ks.map (fun k => L[k]?) = P'.map some) (hT : L.drop n = T) : Pm w0 (P' ++ T) w := by
  subst hT;have hP := h.pick ks hn he;have hL : Pm w0 (L.take n ++ L.drop n) w := by rw [List.take_append_drop]; exact h
  have ha := List.pairwise_append.1 hL.apart;refine ⟨h.bel, fun q hq => (List.mem_append.1 hq).elim (hP.own q) fun h2 => hL.own q (List.mem_append_right _ h2), List.pairwise_append.2 ⟨hP.apart, ha.2.1, fun q hq r hr => ha.2.2 q ?_ r hr⟩, h.oth, h.low⟩;obtain ⟨i, hi⟩ := List.getElem?_of_mem hq;have e := congrArg (fun l => l[i]?) he;simp only [List.getElem?_map, hi, Option.map_some] at e
  cases hk : ks[i]? with
  | none => rw [hk] at e; simp at e
  | some k =>
    rw [hk] at e;simp only [Option.map_some, Option.some.injEq] at e;have hkn := hlt k (List.mem_of_getElem? hk);refine List.mem_of_getElem? (i := k) ?_;rw [List.getElem?_take_of_lt hkn];exact e
theorem KkE {w : World} {B size n : Nat} {A : Option Addr} {xs : List Value} (h : Kd w B size A n xs) (hb : ∀ ad, A = some ad -> ad.block < w.heap.size) : Kd w w.heap.size size A n xs :=
  ⟨h.1, fun hn => by obtain ⟨ad, h1, h2, h3⟩ := h.2 hn; exact ⟨ad, h1, hb ad h1, h3⟩⟩
theorem Kix {w0 : Base} {L : List Pc} {w : World} {A : Option Addr} {e : TypeId} {size n c k : Nat} {xs : List Value} (h : Pm w0 L w) (hk : L[k]? = some (.row (.slice A n c) e size n xs)) : ∀ ad, A = some ad -> ad.block < w.heap.size := fun ad hA => by
  subst hA;exact (Pc.lt (h.at_ hk) ad.block rfl).2
theorem Kz {w0 : Base} {L : List Pc} {w : World} {A : Option Addr} {e : TypeId} {size n c k : Nat} {xs : List Value} (h : Pm w0 L w) (hk : L[k]? = some (.row (.slice A n c) e size n xs)) : Kd w w.heap.size size A n xs := by
  obtain ⟨B, h8⟩ := KL h hk;exact KkE h8 (Kix h hk)
theorem Kd.up {w0 : World} {w : World} {size n : Nat} {A : Option Addr} {xs : List Value} (h : Kd w0 w0.heap.size size A n xs) (hb : Below w0.heap.size w0 w) : Kd w w.heap.size size A n xs := (h.below hb).more hb.size
theorem Kd.headF {α : Type} {c : α -> List Value} {k : Nat} (K : Cel c k) {w : World} {B n m : Nat} {A : Option Addr} {l : List α} (h : Kd w B k A n (Ka c l)) (hm : m <= n) : Kd w B k A m (Ka c (l.take m)) := by
  have hl : l.length * k = n * k := by have := h.1; rwa [Kau K] at this
  refine ⟨?_, fun hn => ?_⟩
  · rw [<- KcC K, List.length_take, Kau K, hl];exact Nat.min_eq_left (Nat.mul_le_mul_right k hm)
  · obtain ⟨ad, h1, h2, h3⟩ := h.2 (by omega);refine ⟨ad, h1, h2, fun j u hu => h3 j u ?_⟩;rw [<- KcC K, List.getElem?_take] at hu;split at hu
    · exact hu
    · cases hu
theorem Kd.tailF {α : Type} {c : α -> List Value} {k : Nat} (K : Cel c k) {w : World} {B n m cap : Nat} {A : Option Addr} {l : List α} (h : Kd w B k A n (Ka c l)) (hm : m <= n) (hc : n <= cap) : Kd w B k (if cap = m then A else A.map (·.add (m * k))) (n - m) (Ka c (l.drop m)) := by
  rw [<- Kfk K];exact h.cut hm hc
section
variable {P : Program} {N : Fr} {Q : Exit -> Act -> World -> Prop} {E : Env} {I S : World -> Prop} {ops : Array Oper} {l : List Oper} {o : Oper} {f : Nat} {listed : Array Bool}
theorem Kcw {g : FuncId} {vs : Array Value} {w : World} {x : Ending} (h : Calls P g vs w fun e w' => e = x /\ w' = w) : Calls P g vs w fun e w' => e = x /\ Below w.heap.size w w' :=
  h.mono fun e w' hh => ⟨hh.1, by rw [hh.2]; exact Below.refl _ _⟩
theorem TC.quietQ {id : Nat} {l : List Oper} (hm : P.follows .mixedOrders = true) (hB : Region.lexB .any l.toArray = true) (hI : ∀ w, I w -> I { w with drawn := w.drawn + 1 })
    (h : TQ P N l.toArray (fun a => ∀ w, I w -> Q .normal a w) l E I) : TC P N Q (.region id l.toArray true) E I := TC.quiet hm hB hI h fun a w ha hw => ha w hw
theorem TQ.fin {ops : Array Oper} (h : TX N Q .normal E I) : TQ P N ops (fun a => ∀ w, I w -> Q .normal a w) [] E I := fun a ha w hw => h a w ha hw
theorem TQ.vsplit {R : Act -> Prop} {d : Nat} {b : Bool} (hg : o.guard = none) (hd : o.dst = some d) (hN : Nat.blt d N.n = true) (hv : Kl P N o E I (.bool b)) (ht : b = true -> TQ P N ops R l ((d, .bool true) :: E) I) (hf : b = false -> TQ P N ops R l ((d, .bool false) :: E) I) : TQ P N ops R (o :: l) E I := by
  cases b with
  | true => exact TQ.val hg hd hN hv (ht rfl)
  | false => exact TQ.val hg hd hN hv (hf rfl)
theorem TS.vsplit {R : Act -> World -> Prop} {d : Nat} {b : Bool} (hg : o.guard = none) (hd : o.dst = some d) (hN : Nat.blt d N.n = true) (hv : Kl P N o E I (.bool b)) (ht : b = true -> TS P N ops R l ((d, .bool true) :: E) I) (hf : b = false -> TS P N ops R l ((d, .bool false) :: E) I) : TS P N ops R (o :: l) E I := by
  cases b with
  | true => exact TS.val hg hd hN hv (ht rfl)
  | false => exact TS.val hg hd hN hv (hf rfl)
theorem TQ.callsplit {w0 : Base} {L : List Pc} {R : Act -> Prop} {d : Nat} {b : Bool} {g : FuncId} {fn : Func} {xs : List Operand} {ts : Array TypeId} {vs : List Value} (hg : o.guard = none) (hd : o.dst = some d) (hN : Nat.blt d N.n = true)
    (ho : o.op = .call { callee := .value (.func g), args := xs.toArray, argTypes := ts }) (hx : evs E xs = some vs) (hf : P.funcs[g]? = some fn) (hn : (fn.name == "runtime.NumGoroutine") = false) (hb : fn.body.isNone = false)
    (hc : ∀ w, Pm w0 L w -> Calls P g vs.toArray w fun e w' => e = .returned (.bool b) /\ Below w.heap.size w w') (ht : b = true -> TQ P N ops R l ((d, .bool true) :: E) (Pm w0 L)) (hff : b = false -> TQ P N ops R l ((d, .bool false) :: E) (Pm w0 L)) : TQ P N ops R (o :: l) E (Pm w0 L) := by
  cases b with
  | true => exact TQ.call hg hd hN ho hx hf hn hb (fun w hw => (hc w hw).mono fun e w' ⟨h1, h2⟩ => ⟨h1, hw.below h2⟩) (ht rfl)
  | false => exact TQ.call hg hd hN ho hx hf hn hb (fun w hw => (hc w hw).mono fun e w' ⟨h1, h2⟩ => ⟨h1, hw.below h2⟩) (hff rfl)
theorem TH.three {o1 o2 o3 : Oper} {l1 l2 l3 : Array Bool} (i j k : Nat) (hi : ops[i]? = some o1) (hj : ops[j]? = some o2) (hk : ops[k]? = some o3) (hr : Region.ready .any ops listed = [i, j, k]) (h1 : listed.setIfInBounds i true = l1) (h2 : listed.setIfInBounds j true = l2) (h3 : listed.setIfInBounds k true = l3) (hg1 : o1.guard = none) (hg2 : o2.guard = none) (hg3 : o3.guard = none)
    (g1 : TL P N ops (Exit.then (Hd P ops S Q f l1) (NoPanic Q)) [o1] E I) (g2 : TL P N ops (Exit.then (Hd P ops S Q f l2) (NoPanic Q)) [o2] E I) (g3 : TL P N ops (Exit.then (Hd P ops S Q f l3) (NoPanic Q)) [o3] E I) : TH P N ops S Q (f + 1) listed E I := fun a w ha hw => by
  subst h1 h2 h3;refine wpAnyH_all hr (by simp) fun m hm => ?_;have : m = i \/ m = j \/ m = k := by simpa using hm
  rcases this with rfl | rfl | rfl
  · exact KdU hi hg1 (g1 a w ha hw)
  · exact KdU hj hg2 (g2 a w ha hw)
  · exact KdU hk hg3 (g3 a w ha hw)
theorem Kja {xt : TypeId} {k : IntKind} {m n : Int} (w : World) : (binOp .andNot xt (.int k m) (.int k n)).run P w = .ok (.int k (bits .andNot k m n)) w := by simp [binOp, go_sem]
end
section
variable {P : Program} {α : Type} {c : α -> List Value} {k : Nat}
theorem Kkz (K : Cel c k) {t e : TypeId} {n : Nat} (ht : P.underlying t = some (.array n e)) (ha : ∀ w : World, (isAgg e).run P w = .ok true w) (hs : ∀ w : World, (sizeOf e).run P w = .ok k w) {l : List α} {i : Nat} {x : α} (hx : l[i]? = some x) (hn : l.length = n) {z : Int} (hz : z = (i : Int)) (w : World) :
    (Instr.index t (.agg (Ka c l).toArray) (.int .i64 z)).run P w = .ok (.agg (c x).toArray) w := by
  subst hz;obtain ⟨hlt, _⟩ := List.getElem?_eq_some_iff.1 hx;have hn' : i < n := by omega
  have hex : List.take k (List.drop (i * k) (Ka c l)) = c x := by
    obtain ⟨h1, h2⟩ := Kha K hx;rw [h1, List.append_assoc, List.drop_append_of_le_length (by omega), List.drop_of_length_le (by omega), List.nil_append, List.take_append_of_le_length (by rw [K.len]; exact Nat.le_refl _), List.take_of_length_le (by rw [K.len]; exact Nat.le_refl _)]
  simp [Instr.index, asIntOf, run_underlying ht, hn', hs, part, ha, go_sem, hex]
end
theorem Kdf {P : Program} {t u : TypeId} {k : IntKind} {m : Int} (hu : P.underlying u = some (.int .i64)) {d : TypeDesc} (ht : P.underlying t = some d) (w : World) : (convert t u (.int k m)).run P w = .ok (.int .i64 (IntKind.i64.wrap m)) w := Kgm hu ht w
theorem KhI {P : Program} {N : Fr} {E : Env} {o : Oper} {I : World -> Prop} {x y : Operand} {ts : Array TypeId} {a b : Int} (ho : o.op = .call { callee := .builtin .max, args := #[x, y], argTypes := ts }) (hx : ev E x = some (.int .i64 a)) (hy : ev E y = some (.int .i64 b)) : Kl P N o E I (.int .i64 (max a b)) := fun ac w ha _ => by
  unfold execOp; rw [ho];simp only [resolve, invoke, builtin, Sem.run_bind, Sem.run_pure, Result.andThen_ok, List.map_toArray, List.map_cons, List.map_nil, ha.eval hx, ha.eval hy];simp [go_sem, Builtin.max_, Builtin.max2]
  try omega
def pc2 (p : Int × Int) : List Value := [.int .i64 p.1, .int .i64 p.2]
theorem KeZ : Cel pc2 2 := ⟨fun _ => rfl, fun x u hu => by
  simp only [pc2, List.mem_cons, List.not_mem_nil, or_false] at hu;rcases hu with rfl | rfl <;> rfl⟩
def Ke (x y : Int) : Int := if x < y then -1 else if y < x then 1 else 0
def orI : List Int -> Int
  | [] => 0
  | x :: r => if x = 0 then orI r else x
theorem KbG {x y : Int} : Ke x y = 0 ↔ x = y := by unfold Ke; split <;> (try split) <;> omega
theorem KdC {x y : Int} : Ke x y < 0 ↔ x < y := by unfold Ke; split <;> (try split) <;> omega
theorem KjQ {x y : Int} : 0 < Ke x y ↔ y < x := by unfold Ke; split <;> (try split) <;> omega
theorem Ke0 (x : Int) : Ke x x = 0 := KbG.2 rfl
def Ky (a b : List Int) : Int := orI (List.zipWith Ke a b)
theorem Kct (x y : Int) (a b : List Int) : Ky (x :: a) (y :: b) = if Ke x y = 0 then Ky a b else Ke x y := rfl
theorem Ker : ∀ {a b : List Int}, a.length = b.length -> (Ky a b = 0 ↔ a = b)
  | [], [], _ => by simp [Ky, orI]
  | x :: a, y :: b, h => by
    rw [Kct];by_cases e : Ke x y = 0
    · rw [if_pos e, Ker (by simpa using h), KbG.1 e];simp
    · rw [if_neg e];exact ⟨fun h => absurd h e, fun h => by cases h; exact absurd (Ke0 x) e⟩
theorem Kc2 (a : List Int) : Ky a a = 0 := (Ker rfl).2 rfl
theorem KbW : ∀ {a b : List Int}, a.length = b.length -> (Ky a b < 0 ↔ 0 < Ky b a)
  | [], [], _ => by simp [Ky, orI]
  | x :: a, y :: b, h => by
    rw [Kct, Kct];by_cases e : x = y
    · subst e;rw [if_pos (Ke0 x), if_pos (Ke0 x)];exact KbW (by simpa using h)
    · rw [if_neg (fun h => e (KbG.1 h)), if_neg (fun h => e (KbG.1 h).symm), KdC, KjQ]
theorem Kc5 : ∀ {a b c : List Int}, a.length = b.length -> b.length = c.length -> Ky a b <= 0 -> Ky b c <= 0 -> Ky a c <= 0 /\ (Ky a b < 0 \/ Ky b c < 0 -> Ky a c < 0)
  | [], [], [], _, _, _, _ => by simp [Ky, orI]
  | x :: a, y :: b, z :: c, h1, h2, h3, h4 => by
    rw [Kct] at h3 h4 ⊢;rw [Kct, Kct];have q1 := @KbG x y; have q2 := @KbG y z; have q3 := @KbG x z;have r1 := @KdC x y; have r2 := @KdC y z; have r3 := @KdC x z;have ih := @Kc5 a b c (by simpa using h1) (by simpa using h2);by_cases e1 : Ke x y = 0
    · by_cases e2 : Ke y z = 0
      · have e3 : Ke x z = 0 := q3.2 ((q1.1 e1).trans (q2.1 e2));rw [if_pos e1] at h3; rw [if_pos e2] at h4;rw [if_pos e1, if_pos e2, if_pos e3];exact ih h3 h4
      · rw [if_neg e2] at h4;have hxy := q1.1 e1;have e3 : ¬ Ke x z = 0 := fun h => e2 (by rw [q2, <- hxy]; exact q3.1 h);rw [if_pos e1, if_neg e2, if_neg e3];have : Ke x z < 0 := r3.2 (by rw [hxy]; exact r2.1 (by omega));omega
    · rw [if_neg e1] at h3;have hxy : x < y := r1.1 (by omega)
      have hyz : y <= z := by
        by_cases e2 : Ke y z = 0
        · have := q2.1 e2; omega
        · rw [if_neg e2] at h4;have := r2.1 (by omega); omega
      have hxz : Ke x z < 0 := r3.2 (by omega);rw [if_neg e1, if_neg (by omega : ¬ Ke x z = 0)];omega
def Kar (n k : Nat) : Array Bool := ((List.range n).map fun i => decide (i < k)).toArray
theorem Kfu (n k : Nat) : (Kar n k).setIfInBounds k true = Kar n (k + 1) := by
  apply Array.ext
  · simp [Kar]
  · intro i h1 h2;simp only [Kar, Array.getElem_setIfInBounds, List.getElem_toArray, List.getElem_map, List.getElem_range];by_cases h : k = i
    · subst h; simp
    · have : i < k ↔ i < k + 1 := by omega
      simp [h, this]
theorem Klb (n : Nat) : Array.replicate n false = Kar n 0 := by
  apply Array.ext
  · simp [Kar]
  · intro i h1 h2;simp [Kar]
def Kbq (d : Nat) : List Oper -> Nat -> Option Nat
  | [], _ => none
  | o :: l, k => match o.dst with
    | some x => bif Nat.beq x d then some k else Kbq d l (k + 1)
    | none => Kbq d l (k + 1)
def KdG : List Oper -> Bool
  | [] => true
  | o :: l => (match o.dst with
    | some x => (Kbq x l 0).isNone
    | none => true) && KdG l
def Kdy (o : Oper) (k : Nat) : Bool := o.after.toList.any fun e => Region.binds .any e && Nat.beq e.on k
def KdP (all : List Oper) (ops : Array Oper) : List Oper -> Nat -> Bool
  | [], _ => true
  | o :: l, j => (o.looksAt ops).all (fun d => match Kbq d all 0 with
      | none => true
      | some k => Nat.blt k j && Kdy o k) && o.after.toList.all (fun e => !Region.binds .any e || Nat.blt e.on j) && KdP all ops l (j + 1)
def Kco (l : List Oper) : Bool := Region.noSelect l.toArray && KdG l && KdP l l.toArray l 0
theorem KdW {d : Nat} : ∀ {l : List Oper} {k : Nat}, Kbq d l k = none -> ∀ o ∈ l, o.dst ≠ some d
  | [], _, _, o, ho => absurd ho List.not_mem_nil
  | x :: l, k, h, o, ho => by
    unfold Kbq at h
    cases hx : x.dst with
    | none =>
      rw [hx] at h;rcases List.mem_cons.1 ho with rfl | ho
      · rw [hx]; simp
      · exact KdW h o ho
    | some y =>
      rw [hx] at h
      cases hb : Nat.beq y d with
      | true => simp only [hb, cond_true] at h; cases h
      | false =>
        simp only [hb, cond_false] at h;rcases List.mem_cons.1 ho with rfl | ho
        · rw [hx];intro e;cases e;rw [Nat.beq_refl] at hb;cases hb
        · exact KdW h o ho
theorem KeT {d : Nat} : ∀ {l : List Oper} {k q : Nat}, Kbq d l k = some q -> ∃ i o, q = k + i /\ l[i]? = some o /\ o.dst = some d
  | [], _, _, h => by cases h
  | x :: l, k, q, h => by
    unfold Kbq at h
    cases hx : x.dst with
    | none =>
      rw [hx] at h;obtain ⟨i, o, h1, h2, h3⟩ := KeT h;exact ⟨i + 1, o, by omega, h2, h3⟩
    | some y =>
      rw [hx] at h
      cases hb : Nat.beq y d with
      | true =>
        simp only [hb, cond_true] at h;cases h;exact ⟨0, x, rfl, rfl, by rw [hx, Nat.eq_of_beq_eq_true hb]⟩
      | false =>
        simp only [hb, cond_false] at h;obtain ⟨i, o, h1, h2, h3⟩ := KeT h;exact ⟨i + 1, o, by omega, h2, h3⟩
theorem KeU : ∀ {l : List Oper} (h : KdG l = true) {i j : Nat} {x y : Oper} {d : Nat}, l[i]? = some x -> l[j]? = some y -> x.dst = some d -> y.dst = some d -> i = j
  | [], _, _, _, _, _, _, hi, _, _, _ => by cases hi
  | o :: l, h, i, j, x, y, d, hi, hj, hx, hy => by
    simp only [KdG, Bool.and_eq_true] at h
    have h0 : ∀ {z : Oper}, o.dst = some d -> z ∈ l -> z.dst ≠ some d := fun {z} ho hz => by
      have h1 := h.1;rw [ho] at h1;exact KdW (Option.isNone_iff_eq_none.1 h1) z hz
    cases i with
    | zero =>
      cases j with
      | zero => rfl
      | succ j =>
        cases hi;exact absurd hy (h0 hx (List.mem_of_getElem? (by simpa using hj)))
    | succ i =>
      cases j with
      | zero =>
        cases hj;exact absurd hx (h0 hy (List.mem_of_getElem? (by simpa using hi)))
      | succ j => exact congrArg (· + 1) (KeU h.2 (i := i) (j := j) (by simpa using hi) (by simpa using hj) hx hy)
theorem Kdo {all : List Oper} {ops : Array Oper} : ∀ {l : List Oper} {j : Nat}, KdP all ops l j = true -> ∀ {i : Nat} {o : Oper}, l[i]? = some o ->
    (∀ d ∈ o.looksAt ops, ∀ k, Kbq d all 0 = some k -> k < j + i /\ Kdy o k = true) /\ (∀ e ∈ o.after.toList, Region.binds .any e = true -> e.on < j + i)
  | [], _, _, _, _, h => by cases h
  | x :: l, j, h, i, o, hi => by
    simp only [KdP, Bool.and_eq_true] at h
    cases i with
    | zero =>
      cases hi;refine ⟨fun d hd k hk => ?_, fun e he hb => ?_⟩
      · have := List.all_eq_true.1 h.1.1 d hd;rw [hk] at this;simp only [Bool.and_eq_true, Nat.blt_eq] at this;exact ⟨by omega, this.2⟩
      · have := List.all_eq_true.1 h.1.2 e he;simp only [hb, Bool.not_true, Bool.false_or, Nat.blt_eq] at this;omega
    | succ i =>
      have := Kdo h.2 (i := i) (o := o) (by simpa using hi);exact ⟨fun d hd k hk => by have h2 := this.1 d hd k hk; exact ⟨by omega, h2.2⟩, fun e he hb => by have h2 := this.2 e he hb; omega⟩
theorem Kd5 {n k i : Nat} {b : Bool} (hi : i < n) : (Kar n k).getD i b = decide (i < k) := by
  simp [Kar, Array.getD, hi]
theorem KiN {l : List Oper} (h : Kco l = true) {k : Nat} (hk : k < l.length) : (Region.ready .any l.toArray (Kar l.length k)).contains k = true := by
  simp only [Kco, Bool.and_eq_true] at h;rw [List.contains_iff_mem];unfold Region.ready;rw [List.mem_filter];refine ⟨List.mem_range.2 (by simpa using hk), ?_⟩;obtain ⟨o, ho⟩ : ∃ o, l[k]? = some o := ⟨_, List.getElem?_eq_getElem hk⟩;have := (Kdo h.2 ho).2;rw [Kd5 hk];simp only [Nat.lt_irrefl, decide_false, Bool.not_false, Bool.true_and];rw [List.getElem?_toArray, ho];simp only [Option.map_some, Option.getD_some];rw [<- Array.all_toList, List.all_eq_true];intro e he
  cases hb : Region.binds .any e with
  | false => rfl
  | true =>
    have h2 := this e he hb;rw [Kd5 (by omega)];simp; omega
theorem KiE {l : List Oper} (h : Kco l = true) {k : Nat} (hk : k < l.length) : Region.free .any l.toArray (Kar l.length k) k = true := by
  simp only [Kco, Bool.and_eq_true] at h;obtain ⟨o, ho⟩ : ∃ o, l[k]? = some o := ⟨_, List.getElem?_eq_getElem hk⟩;unfold Region.free;rw [List.getElem?_toArray, ho];simp only [List.all_eq_true, List.mem_range];intro j hj;have hj' : j < l.length := by simpa using hj
  obtain ⟨oj, hoj⟩ : ∃ o, l[j]? = some o := ⟨_, List.getElem?_eq_getElem hj'⟩;by_cases e : j = k
  · simp [e]
  by_cases hlt : j < k
  · rw [Kd5 hj']; simp [hlt]
  rw [List.getElem?_toArray, hoj];simp only [Bool.or_eq_true];refine .inr ?_
  have sl : ∀ {d : Nat} {i : Nat} {x : Oper}, l[i]? = some x -> x.dst = some d -> Kbq d l 0 = some i := fun {d i x} hi hx => by
    cases hs : Kbq d l 0 with
    | none => exact absurd hx (KdW hs x (List.mem_of_getElem? hi))
    | some q =>
      obtain ⟨i', o', h1, h2, h3⟩ := KeT hs;rw [h1, Nat.zero_add, KeU h.1.2 h2 hi h3 hx]
  by_cases hw : Kdy oj k = true
  · refine .inl ?_;unfold Kdy at hw;rw [<- Array.any_toList];rw [List.any_eq_true] at hw ⊢;obtain ⟨e, he, hb⟩ := hw;refine ⟨e, he, ?_⟩;simp only [Bool.and_eq_true] at hb ⊢;exact ⟨hb.1, by rw [Nat.eq_of_beq_eq_true hb.2]; exact beq_self_eq_true _⟩
  · refine .inr ?_;unfold Oper.apart;rw [Bool.and_eq_true];constructor
    · cases hd : o.dst with
      | none => rfl
      | some d =>
        simp only [Bool.and_eq_true, Bool.not_eq_true', bne_iff_ne, ne_eq];refine ⟨?_, fun h2 => e (KeU h.1.2 hoj ho h2 hd)⟩
        cases hc : (oj.looksAt l.toArray).contains d with
        | false => rfl
        | true =>
          have := ((Kdo h.2 hoj).1 d (List.contains_iff_mem.1 hc) k (sl ho hd)).2;exact absurd this hw
    · cases hd : oj.dst with
      | none => rfl
      | some d =>
        simp only [Bool.not_eq_true']
        cases hc : (o.looksAt l.toArray).contains d with
        | false => rfl
        | true =>
          have := ((Kdo h.2 ho).1 d (List.contains_iff_mem.1 hc) j (sl hoj hd)).1;omega
def Kcj (ops : Array Oper) (n : Nat) : Nat -> Nat -> Bool
  | 0, _ => true
  | m + 1, k => (Region.ready .any ops (Kar n k)).contains k && Region.free .any ops (Kar n k) k && Kcj ops n m (k + 1)
def TV (P : Program) (N : Fr) (ops : Array Oper) (S : World -> Prop) (Q : Exit -> Act -> World -> Prop) (f n k : Nat) (l : List Oper) (E : Env) (I : World -> Prop) : Prop :=
  (∀ w, I w -> S w) -> Region.noSelect ops = true -> (∀ (j : Nat) (o : Oper), l[j]? = some o -> ops[k + j]? = some o) -> Kcj ops n l.length k = true -> TH P N ops S Q (f + l.length) (Kar n k) E I
section
variable {P : Program} {N : Fr} {Q : Exit -> Act -> World -> Prop} {E : Env} {I S : World -> Prop} {ops : Array Oper} {f n k : Nat} {l : List Oper} {o : Oper}
theorem TV.val {d : Nat} {v : Value} (hg : o.guard = none) (hd : o.dst = some d) (hN : Nat.blt d N.n = true) (hv : Kl P N o E S v) (h : TV P N ops S Q f n (k + 1) l ((d, v) :: E) I) : TV P N ops S Q f n k (o :: l) E I := fun hS hs hl hp => by
  simp only [List.length_cons, Kcj, Bool.and_eq_true] at hp;have hi : ops[k]? = some o := by have := hl 0 o rfl; simpa using this
  refine TH.take (f := f + l.length) k hi hs hp.1.2 hp.1.1 (Kfu n k) hg hd hN hv hS ?_;exact h hS hs (fun j o' ho' => by rw [Nat.add_assoc, Nat.add_comm 1 j]; exact hl (j + 1) o' ho') hp.2
theorem TV.call {d : Nat} {r : Value} {g : FuncId} {fn : Func} {xs : List Operand} {ts : Array TypeId} {vs : List Value} (hg : o.guard = none) (hd : o.dst = some d) (hN : Nat.blt d N.n = true) (ho : o.op = .call { callee := .value (.func g), args := xs.toArray, argTypes := ts }) (hx : evs E xs = some vs) (hfn : P.funcs[g]? = some fn) (hn : (fn.name == "runtime.NumGoroutine") = false) (hb : fn.body.isNone = false)
    (hc : ∀ w, S w -> Calls P g vs.toArray w fun e w' => e = .returned r /\ w' = w) (h : TV P N ops S Q f n (k + 1) l ((d, r) :: E) I) : TV P N ops S Q f n k (o :: l) E I := fun hS hs hl hp => by
  simp only [List.length_cons, Kcj, Bool.and_eq_true] at hp;have hi : ops[k]? = some o := by have := hl 0 o rfl; simpa using this
  refine TH.takeC (f := f + l.length) k hi hs hp.1.2 hp.1.1 (Kfu n k) hg hd hN ho hx hfn hn hb hc hS ?_;exact h hS hs (fun j o' ho' => by rw [Nat.add_assoc, Nat.add_comm 1 j]; exact hl (j + 1) o' ho') hp.2
theorem TV.end_ {ls : Array Bool} (hls : Kar n k = ls) (h : TH P N ops S Q f ls E I) : TV P N ops S Q f n k [] E I := fun _ _ _ _ => by subst hls; exact h
theorem TC.pre {id : Nat} (m : Nat) (n f : Nat) (S : World -> Prop) (hm : P.follows .mixedOrders = true) (hn : l.toArray.size = n) (hI : ∀ w, I w -> I { w with drawn := w.drawn + 1 }) (hb : Kco l = true) (hf : f + m = n) (hS : ∀ w, I w -> S w)
    (h : TV P N l.toArray S Q f n 0 (l.take m) E I) : TC P N Q (.region id l.toArray true) E I := by
  have hlen : (l.take m).length = m := by rw [List.length_take]; simp at hn; omega
  have hs : Region.noSelect l.toArray = true := by simp only [Kco, Bool.and_eq_true] at hb; exact hb.1.1
  have hnl : l.length = n := by simpa using hn
  have hp : Kcj l.toArray n m 0 = true := by
    have key : ∀ (q k : Nat), k + q <= l.length -> Kcj l.toArray l.length q k = true := by
      intro q
      induction q with
      | zero => intro k _; rfl
      | succ q ih =>
        intro k hk;simp only [Kcj, Bool.and_eq_true];exact ⟨⟨KiN hb (by omega), KiE hb (by omega)⟩, ih (k + 1) (by omega)⟩
    rw [<- hnl];exact key m 0 (by omega)
  refine TC.held (ls := Kar n 0) (n := n) S hm hn (Klb n) hI ?_
  have := h hS hs (fun j o ho => by
    have hj : j < m := by have := (List.getElem?_eq_some_iff.1 ho).1; omega
    rw [List.getElem?_take_of_lt hj] at ho;rw [Nat.zero_add, List.getElem?_toArray]; exact ho) (by rw [hlen]; exact hp)
  rw [hlen, hf] at this;exact this
end
set_option maxRecDepth 20000
section
variable {P : Program} {N : Fr} {E : Env} {I : World -> Prop} {o : Oper}
theorem Ka5 {op : BinOp} {xt yt : TypeId} {x y : Operand} {vx vy v : Value} (ho : o.op = .binOp op xt x y yt) (hx : ev E x = some vx) (hy : ev E y = some vy)
    (hv : ∀ w : World, (do eqGuard op xt x y vx vy; binOp op xt vx vy : Sem Value).run P w = .ok v w) : Kl P N o E I v := fun a w ha _ => by
  unfold execOp; rw [ho];simp only [ha.eval hx, ha.eval hy];have := hv w;simp only [Sem.run_bind] at this ⊢;rw [this]
  rfl
end
def raw : List Int -> Int
  | [] => 0
  | [x] => x * 256
  | x :: y :: r => x * 256 + y + raw r
def be (l : List Int) : Int := l.foldl (fun a x => a * 256 + x) 0
def enc (x : Int) : Nat -> List Int
  | 0 => []
  | k + 1 => (x / 256 ^ k % 256) :: enc x k
structure Rs where
  v : Int
  run : Int
  num : Int
  at_ : Int
  dst : Int
  proto : Int
  flow : Int
  ttl : Int
  ans : Bool
  dbl : Bool
  back : Int
  src : Int
  kind : Int
  code : Int
  left : Int
  id : Int
  quo : Int
deriving DecidableEq
def Rs.zero : Rs := ⟨0, 0, 0, 0, 0, 0, 0, 0, false, false, 0, 0, 0, 0, 0, 0, 0⟩
def Rs.noAns (r : Rs) : Bool := decide (r.src = 0 /\ r.kind = 0 /\ r.code = 0 /\ r.left = 0 /\ r.id = 0 /\ r.quo = 0)
def Rs.inRange (r : Rs) : Prop := 0 <= r.v /\ r.v <= 15 /\ 0 <= r.run /\ r.run <= 63 /\ 0 <= r.num /\ r.num <= 999 /\ 0 <= r.at_ /\ r.at_ <= 2251799813685248 /\ 0 <= r.back /\ r.back <= 2251799813685248 /\ r.at_ <= r.back /\ 0 <= r.flow /\ r.flow <= 1023 /\ 1 <= r.ttl /\ r.ttl <= 255
instance (r : Rs) : Decidable r.inRange := by unfold Rs.inRange; infer_instance
def Rs.ansOk (r : Rs) : Prop := 1 <= r.kind /\ r.kind <= 5 /\ 0 <= r.code /\ r.code <= 255 /\ 0 <= r.left /\ r.left <= 255 /\ 0 <= r.quo /\ r.quo <= 255 /\ 0 <= r.id /\ r.id <= 65535
instance (r : Rs) : Decidable r.ansOk := by unfold Rs.ansOk; infer_instance
def Kaf (r : Rs) : Int :=
  if ¬ r.inRange then 1
  else if ¬ (r.proto = 1 \/ r.proto = 6 \/ r.proto = 17) then 16
  else if (r.dbl = true /\ r.ans = false) \/ (r.ans = false /\ r.noAns = false) then 7
  else if r.ans = true /\ ¬ r.ansOk then 1
  else 0
theorem KeN {r : Rs} (h : ¬ r.inRange) : 1 = Kaf r := by rw [Kaf, if_pos h]
def Rs.Ok (r : Rs) : Prop := 0 <= r.dst /\ r.dst <= 4294967295 /\ 0 <= r.src /\ r.src <= 4294967295
section
variable {r : Rs} {b1 b2 b3 b4 : Bool} (h1 : b1 = true ↔ ¬ r.inRange) (h2 : b2 = true ↔ ¬ (r.proto = 1 \/ r.proto = 6 \/ r.proto = 17)) (h3 : b3 = true ↔ (r.dbl = true /\ r.ans = false) \/ (r.ans = false /\ r.noAns = false)) (h4 : b4 = true ↔ r.ans = true /\ ¬ r.ansOk)
include h1
theorem Kho (e1 : b1 = true) : 1 = Kaf r := by unfold Kaf; rw [if_pos (h1.1 e1)]
include h2
theorem Kj8 (e1 : b1 = false) (e2 : b2 = true) : 16 = Kaf r := by
  subst e1 e2;unfold Kaf; rw [if_neg (by simpa using h1), if_pos (h2.1 rfl)]
include h3
theorem Kjf (e1 : b1 = false) (e2 : b2 = false) (e3 : b3 = true) : 7 = Kaf r := by
  subst e1 e2 e3;unfold Kaf; rw [if_neg (by simpa using h1), if_neg (by simpa using h2), if_pos (h3.1 rfl)]
include h4
theorem Khl (e1 : b1 = false) (e2 : b2 = false) (e3 : b3 = false) (e4 : b4 = true) : 1 = Kaf r := by
  subst e1 e2 e3 e4;unfold Kaf; rw [if_neg (by simpa using h1), if_neg (by simpa using h2), if_neg (fun h => by have := h3.2 h; cases this), if_pos (h4.1 rfl)]
theorem Kjo (e1 : b1 = false) (e2 : b2 = false) (e3 : b3 = false) (e4 : b4 = false) : 0 = Kaf r := by
  subst e1 e2 e3 e4;unfold Kaf; rw [if_neg (by simpa using h1), if_neg (by simpa using h2), if_neg (fun h => by have := h3.2 h; cases this), if_neg (fun h => by have := h4.2 h; cases this)]
end
end Go.Proofs.YtcicmplfmcloiaaGreat

namespace Go
def Result.Mono {α : Type} (d : Nat) : Result α -> Prop
 | .ok _ w => d <= w.drawn
 | .halt _ w => d <= w.drawn
theorem World.ask_mono {α : Type} (s : Ask α) : ∀ w : World, w.drawn <= (w.ask s).2.drawn := by
 induction s with
 | done a => intro w; simp [World.ask]
 | ask what range k ih =>
  intro w;simp only [World.ask];split
  ·exact ih _ w
  ·exact Nat.le_trans (Nat.le_succ _) (ih _ { w with drawn := w.drawn + 1 })
theorem World.sys_mono (w : World) (c : Sys) : w.drawn <= (w.sys c).2.drawn := by
 have h := World.ask_mono (Kernel.perform c w.os) w;unfold World.sys;generalize World.ask w (Kernel.perform c w.os) = x at h ⊢;split
 ·exact Nat.le_refl _
 ·exact h
theorem World.drawn_freeze (w : World) (a : Addr) (n : Nat) : (w.freeze a n).drawn = w.drawn := by
 unfold World.freeze; split <;> rfl
theorem World.drawn_viewStore {p : Program} {w : World} {at_ : Addr} {u : TypeId} {k : Addr} {v : Value} {atomic : Bool} {r : World × List Addr} (h : w.viewStore p at_ u k v atomic = .ok r) : r.1.drawn = w.drawn := by
 unfold World.viewStore at h;simp only [bind, Except.bind, pure, Except.pure] at h
 repeat' (split at h)
 all_goals first | (cases h; done) | skip
 all_goals (try (injection h with h; subst h; rfl))
theorem World.drawn_farStore {p : Program} {w : World} {a : Addr} {v : Value} {atomic : Bool} {r : World × List Addr} (h : w.farStore p a v atomic = .ok r) : r.1.drawn = w.drawn := by
 unfold World.farStore at h;split at h
 ·split at h
  ·rename_i h1; cases h; exact World.drawn_viewStore h1
  ·cases h
 ·cases h
theorem Sem.run_mono {α : Type} (p : Program) (s : Sem α) : ∀ w : World, (s.run p w).Mono w.drawn := by
 induction s with
 | pure a => intro w; exact Nat.le_refl _
 | load m a k ih =>
  intro w;simp only [Sem.run];split
  ·exact ih _ w
  ·split
   ·exact ih _ w
   ·exact Nat.le_refl _
 | store m a v k ih =>
  intro w;cases v
  case agg => exact Nat.le_refl _
  case tuple => exact Nat.le_refl _
  all_goals
   simp only [Sem.run];split
   ·split
    ·exact Nat.le_refl _
    ·exact ih (w.setCell a _)
   ·split
    ·rename_i h; have := ih ‹World›; rw [show World.drawn _ = w.drawn from World.drawn_farStore h] at this; exact this
    ·exact Nat.le_refl _
 | new o k ih => intro w; exact ih w.heap.size { w with heap := w.heap.push o }
 | shape r k ih => intro w; exact ih (w.shape? r) w
 | freeze a n k ih => intro w; have := ih (w.freeze a n); rw [World.drawn_freeze] at this; exact this
 | frozen a k ih => intro w; exact ih (w.frozen? a) w
 | getObj r k ih =>
  intro w;simp only [Sem.run];split
  ·exact Nat.le_refl _
  ·exact ih _ w
  ·exact Nat.le_refl _
 | setObj r o k ih =>
  intro w;simp only [Sem.run];split
  ·exact Nat.le_refl _
  ·exact ih { w with heap := w.heap.setIfInBounds r o }
  ·exact Nat.le_refl _
 | choose q k ih =>
  intro w;simp only [Sem.run];split
  ·exact ih 0 w
  ·have := ih (q.cut (w.tape w.drawn q)) { w with drawn := w.drawn + 1 }
   revert this
   cases Sem.run p (k (q.cut (w.tape w.drawn q))) { w with drawn := w.drawn + 1 } <;> exact fun h => Nat.le_trans (Nat.le_succ _) h
 | sys c k ih =>
  intro w;have h1 := w.sys_mono c;have := ih (w.sys c).1 (w.sys c).2;show (Sem.run p (k (w.sys c).1) (w.sys c).2).Mono w.drawn
  revert this
  cases Sem.run p (k (w.sys c).1) (w.sys c).2 <;> exact fun h => Nat.le_trans h1 h
 | program k ih => intro w; exact ih p w
 | mark m k ih => intro w; exact ih w
 | halt h => intro w; exact Nat.le_refl _
section
variable {α : Type} {p : Program} {s : Sem α} {w w' : World} {a : α} {hh : Halt} {es es' : Array Event}
theorem Sem.ok_mono (h : s.run p w = .ok a w') : w.drawn <= w'.drawn := by have := Sem.run_mono p s w; rw [h] at this; exact this
theorem Sem.halt_mono (h : s.run p w = .halt hh w') : w.drawn <= w'.drawn := by have := Sem.run_mono p s w; rw [h] at this; exact this
theorem Sem.runT_mono (p : Program) (s : Sem α) (w : World) (es : Array Event) : (s.runT p w es).1.Mono w.drawn := by rw [Sem.runT_eq]; exact Sem.run_mono p s w
theorem Sem.okT_mono (h : s.runT p w es = (.ok a w', es')) : w.drawn <= w'.drawn := by have := Sem.runT_mono p s w es; rw [h] at this; exact this
theorem Sem.haltT_mono (h : s.runT p w es = (.halt hh w', es')) : w.drawn <= w'.drawn := by have := Sem.runT_mono p s w es; rw [h] at this; exact this
end
def GStep.Mono (d : Nat) : GStep -> Prop
 | .go _ w _ => d <= w.drawn
 | .comm _ _ _ _ w _ => d <= w.drawn
 | .spawn _ _ w _ => d <= w.drawn
 | .count _ w _ => d <= w.drawn
 | .timer _ _ w _ => d <= w.drawn
 | .alone _ _ w _ => d <= w.drawn
 | .newcoro _ _ _ w _ => d <= w.drawn
 | .coroswitch _ _ _ w _ => d <= w.drawn
 | .collect _ w _ => d <= w.drawn
 | .watch _ w _ => d <= w.drawn
 | .ended _ _ _ => True
theorem GStep.Mono.after {d : Nat} {s : GStep} (es : Array Event) (h : s.Mono d) : (s.after es).Mono d := by
 cases s <;> exact h
theorem GStep.Mono.up {d d' : Nat} {s : GStep} (h : s.Mono d) (hd : d' <= d) : s.Mono d' := by
 cases s <;> first | exact Nat.le_trans hd h | trivial
theorem GStep.ite_mono {d : Nat} {c : Prop} [Decidable c] {a b : GStep} (ha : a.Mono d) (hb : b.Mono d) : (if c then a else b).Mono d := by
 split
 ·exact ha
 ·exact hb
variable {p : Program} {w : World}
theorem KjE (fd : Nat) (t : ByteArray) (o : Outcome) (d : Nat) : (endWith w fd t o).Mono d := by
 unfold endWith
 extract_lets cannot
 split
 ·split <;> trivial
 ·trivial
 ·trivial
theorem KdT (fr : Frame) (m : String) : (endThrow fr m w).Mono w.drawn := Nat.le_refl _
theorem KhG (fr : Frame) (v : Value) : (endPrinting p fr v w).Mono w.drawn := by
 unfold endPrinting;simp only [];split
 ·exact KdT _ _
 ·trivial
theorem Kht (fr : Frame) (cs : List Frame) (dy : Option Dying) (m : String) : (endFatal p fr cs dy m w).Mono w.drawn := by
 unfold endFatal
 extract_lets chain raw shown
 have h := Sem.run_mono p shown w;generalize shown.run p w = r at h ⊢
 cases r with
 | ok v w1 => exact h
 | halt hh w1 => cases hh <;> trivial
theorem KlE (fr : Frame) (d : Dying) (f : Fatal) : (writeOn p fr d f w).Mono w.drawn := by
 unfold writeOn
 extract_lets on
 split
 ·trivial
 ·extract_lets
  split
  all_goals first | trivial | exact Sem.okT_mono (by assumption) | exact Sem.haltT_mono (by assumption)
theorem Kl6 (fr : Frame) (d : Dying) : (die p fr d w).Mono w.drawn := by
 unfold die;split
 ·exact KlE _ _ _
 ·split
  ·split
   ·exact Nat.le_refl _
   ·exact KjE _ _ _ _
  ·extract_lets
   split
   ·exact Nat.le_refl _
   ·split
    all_goals first | trivial | exact Sem.ok_mono (by assumption)
   ·rename_i t recv name _;have h := Sem.runT_mono p (invoke (.fn (.method name) #[]) #[.iface t recv]) w #[];generalize (invoke (.fn (.method name) #[]) #[.iface t recv]).runT p w #[] = r at h ⊢;obtain ⟨r, es⟩ := r;refine GStep.Mono.after _ ?_;simp only [Result.Mono] at h;split
    all_goals first | trivial | exact h | exact (KhG _ _).up h
   ·trivial
theorem Ke1 (main : Bool) (fr : Frame) (cs : List Frame) (dy : Option Dying) (v : Value) : (doReturn p main fr cs dy v w).Mono w.drawn := by
 unfold doReturn;split
 ·split
  all_goals exact Nat.le_refl _
 ·split
  ·exact Nat.le_refl _
  ·trivial
  ·split
   ·exact Nat.le_refl _
   ·split
    ·exact Nat.le_refl _
    ·trivial
theorem Kk6 (fr : Frame) (cs : List Frame) (dy : Option Dying) (d : Deferred) : (callDeferred p fr cs dy d w).Mono w.drawn := by
 unfold callDeferred;refine GStep.ite_mono trivial ?_
 ·have h := Sem.runT_mono p (invoke d.target d.args) w #[];generalize (invoke d.target d.args).runT p w #[] = r at h ⊢;obtain ⟨r, es⟩ := r;refine GStep.Mono.after _ ?_;simp only [Result.Mono] at h
  cases r with
  | ok v w1 =>
   cases v
   all_goals first | trivial | exact h | skip
   case recover =>
    dsimp only;split <;> exact h
   case alone b _ => cases b <;> first | trivial | exact h
   case coroswitch _ b => cases b <;> first | trivial | exact h
  | halt hh w1 =>
   cases hh
   all_goals first | trivial | exact h | exact (Kht _ _ _ _).up h | exact (KdT _ _).up h
theorem KiI (main : Bool) (fr : Frame) (cs : List Frame) (dy : Option Dying) : (unwind p main fr cs dy w).Mono w.drawn := by
 unfold unwind;split
 ·rename_i block _ _ _;have h := Sem.runT_mono p (Instr.takeDeferred block) w #[];generalize (Instr.takeDeferred block).runT p w #[] = r at h ⊢;obtain ⟨r, es⟩ := r;refine GStep.Mono.after _ ?_;simp only [Result.Mono] at h;cases r <;> first | trivial | exact h
 ·exact Kk6 _ _ _ _
 ·split
  ·trivial
  ·split
   ·trivial
   ·split
    ·exact Nat.le_refl _
    ·split
     ·split
      ·exact Nat.le_refl _
      ·split
       all_goals first | trivial | exact Sem.ok_mono (by assumption)
     ·split
      ·exact KhG _ _
      ·trivial
  ·split
   ·exact Ke1 _ _ _ _ _
   ·rename_i fn _;have h := Sem.runT_mono p (results fn fr.tmps) w #[];generalize (results fn fr.tmps).runT p w #[] = r at h ⊢;obtain ⟨r, es⟩ := r;refine GStep.Mono.after _ ?_;simp only [Result.Mono] at h
    cases r with
    | ok v w1 => exact (Ke1 _ _ _ _ _).up h
    | halt hh w1 => cases hh <;> trivial
theorem Kju (fr : Frame) (cs : List Frame) (dy : Option Dying) (g : Nat) : (early p fr cs dy g w).Mono w.drawn := by
 unfold early
 extract_lets refuse notYet
 have hn : ∀ w1 : World, (notYet w1).Mono w1.drawn := fun w1 => by
  show GStep.Mono _ (match w1.heap[g]? with | some (.pending c elem) => _ | _ => _);split
  ·exact Nat.le_refl _
  ·trivial
 split
 ·exact hn w
 ·split
  ·trivial
  ·extract_lets there
   have ht : ∀ w1 : World, (there w1).Mono w1.drawn := fun w1 => Nat.le_refl _;split
   ·exact hn w
   ·split
    ·exact hn w
    ·split
     ·trivial
     ·exact ht w
     ·trivial
     ·exact hn w
     ·split
      ·exact ht w
      ·split
       ·exact hn w
       ·split
        ·exact (hn _).up (Sem.ok_mono (by assumption))
        ·exact (ht _).up (Sem.ok_mono (by assumption))
        ·trivial
theorem Kdb (fr : Frame) (cs : List Frame) (dy : Option Dying) (s : Sem Next) (listen : Bool) : (stepG.apply p listen fr cs dy s w).Mono w.drawn := by
 unfold stepG.apply
 extract_lets go kind
 have h : (if listen = true then s.runT p w #[] else (s.run p w, #[])).1.Mono w.drawn := by
  split
  ·exact Sem.runT_mono p s w #[]
  ·exact Sem.run_mono p s w
 generalize (if listen = true then s.runT p w #[] else (s.run p w, #[])) = r at h ⊢;obtain ⟨r, es⟩ := r;refine GStep.Mono.after _ ?_;simp only [Result.Mono] at h
 cases r with
 | ok v w1 =>
  cases v
  all_goals first | trivial | exact h | skip
  all_goals dsimp only
  case spawn =>
   refine GStep.ite_mono ?_ ?_
   ·exact (KdT _ _).up h
   ·exact h
  all_goals (split <;> exact h)
 | halt hh w1 =>
  cases hh
  all_goals first | trivial | exact h | exact (Kht _ _ _ _).up h | exact (KdT _ _).up h | skip
  case unsupported u => cases u <;> first | trivial | exact (Kju _ _ _ _).up h
theorem KlB (fr : Frame) (cs : List Frame) (dy : Option Dying) (listen : Bool) : (stepG.oper p listen fr cs dy w).Mono w.drawn := by
 unfold stepG.oper;split
 ·trivial
 ·split
  ·exact Kdb _ _ _ _ _
  ·exact Kdb _ _ _ _ _
theorem KiH (main : Bool) (fr : Frame) (cs : List Frame) (dy : Option Dying) (listen : Bool) : (stepG.exec p main listen fr cs dy w).Mono w.drawn := by
 unfold stepG.exec
 extract_lets go to lost leave
 have hgo : ∀ f, (go f w).Mono w.drawn := fun f => Nat.le_refl _;have hto : ∀ f, (to f).Mono w.drawn := fun f => Nat.le_refl _
 have hleave : ∀ j, (leave j).Mono w.drawn := fun j => by
  show GStep.Mono _ (match fr.roundOf with | none => _ | some l => _)
  cases fr.roundOf with
  | none => exact GStep.ite_mono (Nat.le_refl _) trivial
  | some l =>
   refine GStep.Mono.after _ ?_;have h := Sem.runT_mono p (Instr.endRound l j) w #[];generalize ((Instr.endRound l j).runT p w #[]).1 = r at h ⊢;simp only [Result.Mono] at h
   cases r with
   | ok v w1 => exact (Ke1 _ _ _ _ _).up h
   | halt hh w1 => trivial
 clear_value leave
 split
 all_goals first | exact hleave _ | exact hto _ | trivial | exact Kdb _ _ _ _ _ | skip
 ·split
  ·exact hto _
  ·trivial
 ·rename_i id k _
  cases exitTo id k with
  | none => exact hleave _
  | some l => exact hto _
 ·rename_i l k _
  cases gotoIn l k with
  | none => exact hleave _
  | some l => exact hto _
 ·rename_i f params assign body k _;have h := Sem.runT_mono p (Instr.enterLoop fr.fn fr.tmps params assign body fr.roundOf) w #[];generalize (Instr.enterLoop fr.fn fr.tmps params assign body fr.roundOf).runT p w #[] = r at h ⊢;obtain ⟨r, es⟩ := r;refine GStep.Mono.after _ ?_;simp only [Result.Mono] at h
  cases r with
  | ok v w1 => exact (Kdb _ _ _ _ _).up h
  | halt hh w1 => trivial
 ·rename_i l k _;have h := Sem.runT_mono p (Instr.endLoop l) w #[];generalize (Instr.endLoop l).runT p w #[] = r at h ⊢;obtain ⟨r, es⟩ := r;refine GStep.Mono.after _ ?_;simp only [Result.Mono] at h
  cases r with
  | ok v w1 => exact h
  | halt hh w1 => cases hh <;> first | trivial | exact h
 ·rename_i row args _ _
  cases Extern.next row with
  | none => trivial
  | some e => exact Kdb _ _ _ _ _
 ·refine GStep.ite_mono (hto _) ?_;split
  ·exact Sem.ok_mono (by assumption)
  ·trivial
 ·refine GStep.ite_mono ?_ ?_
  ·exact KlB _ _ _ _
  ·exact Nat.le_refl _
theorem Kl5 (main : Bool) (g : Goroutine) (listen : Bool) : (stepG p main g w listen).Mono w.drawn := by
 unfold stepG;obtain ⟨fr, cs, st, dy, of⟩ := g;dsimp only;split
 ·exact Kl6 _ _
 ·exact KiH _ _ _ _ _
 ·exact KiI _ _ _ _
def Stepped.Mono (d : Nat) : Stepped -> Prop
 | .next m => d <= m.world.drawn
 | .ended _ _ => True
theorem Stepped.Mono.up {d d' : Nat} {s : Stepped} (h : s.Mono d) (hd : d' <= d) : s.Mono d' := by
 cases s <;> first | exact Nat.le_trans hd h | trivial
theorem Klu {rest : Rest} {cases_ : Array CommCase} {w1 : World} (h : waitingAt rest cases_ w = some w1) : w.drawn <= w1.drawn := by
 unfold waitingAt at h;split at h
 ·split at h
  ·cases h; exact Nat.le_refl _
  ·cases h
 ·cases h; exact Nat.le_refl _
theorem Kiu (rest : Rest) (gs : Array Goroutine) (i : Nat) (g : Goroutine) (cs : Array CommCase) (b : Bool) (sh : CommShape) : (communicate p rest gs i g cs b sh w).1.Mono w.drawn := by
 unfold communicate
 extract_lets put illMade me other ready pick
 split
 ·trivial
 ·split
  ·split
   ·split
    ·exact Klu (by assumption)
    ·trivial
   ·exact Nat.le_refl _
  ·have h := Sem.run_mono p pick w;generalize pick.run p w = r at h ⊢;simp only [Result.Mono] at h
   cases r with
   | halt hh w1 => trivial
   | ok v w1 =>
    obtain ⟨k, c, way⟩ := v;dsimp only at h ⊢;split
    ·split
     ·exact Nat.le_trans h (Sem.halt_mono (by assumption))
     ·trivial
    ·exact h
    ·exact h
    ·split
     ·exact h
     ·split
      ·rename_i h2;have h3 := Sem.ok_mono h2;exact Nat.le_trans h h3
      ·trivial
    ·exact h
    ·exact h
    ·trivial
theorem Kem (gs : Array Goroutine) (rest : Rest) : (look p gs rest w).Mono w.drawn := by
 unfold look;split
 ·dsimp only;split
  ·trivial
  ·split
   ·trivial
   ·split
    ·rename_i h;have h2 := Sem.ok_mono h;exact h2
    ·trivial
    ·trivial
 ·trivial
theorem Kiv (c : Nat) : (drain w c).2.drawn = w.drawn := by
 unfold drain; split <;> rfl
theorem KgD (m : Machine) (k : Nat) (t : Timer) (a b : Nat) : (retime m k t a b).2.world.drawn = m.world.drawn := by
 unfold retime
 cases t.chan with
 | none => rfl
 | some c => exact Kiv c
theorem KjJ {m : Machine} {op : TimerOp} {v : Value} {m1 : Machine} (h : timerOp m op = .ok (v, m1)) : m.world.drawn <= m1.world.drawn := by
 unfold timerOp at h;split at h
 ·split at h
  ·cases h; exact Nat.le_refl _
  ·split at h
   ·split at h
    ·cases h
    ·cases h; exact Nat.le_refl _
   ·cases h
 ·unfold timerOp.named at h;split at h
  ·injection h with h; rw [show m1 = _ from (congrArg Prod.snd h).symm, KgD]; exact Nat.le_refl _
  ·cases h
 ·split at h
  ·rename_i m2 hm;unfold timerOp.opened at hm
   have h0 : m2.world.drawn = m.world.drawn := by
    split at hm
    ·split at hm
     ·cases hm; rfl
     ·cases hm
    ·cases hm; rfl
   unfold timerOp.named at h;split at h
   ·injection h with h; rw [show m1 = _ from (congrArg Prod.snd h).symm, KgD, h0]; exact Nat.le_refl _
   ·cases h
  ·cases h
 ·cases h; exact Nat.le_refl _
theorem runT_mono (m : Machine) (i : Nat) (listen : Bool) : (runT p m i listen).1.Mono m.world.drawn := by
 unfold runT
 extract_lets rest world
 split;rename_i g gs _
 extract_lets wake fn pos s ops done
 have h : s.Mono m.world.drawn := Kl5 _ _ _
 clear_value s
 cases s with
 | ended => trivial
 | comm g cs b sh w es => exact (Kiu _ _ _ _ _ _ _).up h
 | go => exact h
 | spawn => exact h
 | count => 
  dsimp only [done];split
  ·trivial
  ·exact h
 | alone => exact h
 | collect => exact (Kem _ _).up h
 | watch => exact h
 | newcoro => exact h
 | coroswitch g c exit w es => 
  dsimp only [done];split
  ·exact h
  ·exact h
  ·trivial
 | timer g op w es =>
  dsimp only [done];split
  ·exact Nat.le_trans h (KjJ (by assumption))
  ·exact h
  ·trivial
  ·trivial
def Move.Mono (d : Nat) : Move -> Prop
 | .goroutine m _ => d <= m.world.drawn
 | .machine s _ => s.Mono d
theorem Move.Mono.up {d d' : Nat} {s : Move} (h : Move.Mono d s) (hd : d' <= d) : s.Mono d' := by
 cases s with
 | goroutine m i => exact Nat.le_trans hd h
 | machine s ops => exact Stepped.Mono.up h hd
theorem KiL (m : Machine) (k : Nat) : (serve p m k).Mono m.world.drawn := by
 unfold serve;split
 ·trivial
 ·exact Nat.le_refl _
 ·dsimp only;split
  ·trivial
  ·exact Nat.le_refl _
theorem KeY (m : Machine) : (askOn p m).Mono m.world.drawn := by
 unfold askOn
 extract_lets mono rs ds pick
 have hp : ∀ m1 : Machine, (pick m1).Mono m1.world.drawn := fun m1 => by
  show Move.Mono _ (match (choose (.sched rs.length)).run p m1.world with | .halt _ w => _ | .ok k world => _);split
  ·trivial
  ·rename_i h;have h1 := Sem.ok_mono h;split
   ·exact h1
   ·split
    ·trivial
    ·rename_i h2;exact Nat.le_trans h1 (Sem.ok_mono h2)
 clear_value pick
 clear_value rs ds mono
 have hq : ∀ (d : Nat) (m1 : Machine), d <= m1.world.drawn -> (pick m1).Mono d := fun d m1 h => Move.Mono.up (hp m1) h;split
 ·trivial
 ·rename_i h;have h1 := Sem.ok_mono h;clear h;dsimp only;split
  ·exact (KiL _ _).up h1
  ·cases rs with
   | nil =>
    dsimp only;split
    ·exact h1
    ·split
     ·exact h1
     ·split <;> trivial
   | cons r rs =>
    dsimp only;split
    ·exact hq _ _ h1
    ·split
     ·trivial
     ·rename_i h2;have h3 := Sem.ok_mono h2;exact hq _ _ (Nat.le_trans h1 h3)
     ·rename_i h2;have h3 := Sem.ok_mono h2;exact Nat.le_trans h1 h3
     ·rename_i h2;have h3 := Sem.ok_mono h2;exact hq _ _ (Nat.le_trans h1 h3)
theorem ask_mono (m : Machine) : (ask p m).Mono m.world.drawn := by
 unfold ask;split
 ·split
  ·trivial
  ·rename_i h;have h1 := Sem.ok_mono h;split
   ·rename_i m2 h2;have h3 := Kem (p := p) (w := by assumption) m.gs m.rest;rw [h2] at h3;exact Move.Mono.up (KeY _) (Nat.le_trans h1 h3)
   ·rename_i h2;have h3 := Kem (p := p) (w := by assumption) m.gs m.rest
    revert h3
    generalize look p m.gs m.rest _ = s;intro h3;exact h3.up h1
  ·rename_i h;exact Move.Mono.up (KeY _) (Sem.ok_mono h)
 ·exact KeY m
theorem KjG (m : Machine) : (move p m).Mono m.world.drawn := by
 unfold move;split
 ·split
  ·exact Nat.le_refl _
  ·trivial
 ·split
  ·split
   ·exact Nat.le_refl _
   ·exact ask_mono { m with rest := { m.rest with slice := none } }
  ·exact ask_mono m
theorem Kl0 (m : Machine) : (step p m).Mono m.world.drawn := by
 unfold step stepT;have h := KjG (p := p) m;generalize move p m = mv at h ⊢
 cases mv with
 | goroutine m1 i => exact (runT_mono m1 i _).up h
 | machine s ops => exact h
theorem Kjg (n : Nat) : ∀ m m' : Machine, runN p n m = .next m' -> m.world.drawn <= m'.world.drawn := by
 induction n with
 | zero => intro m m' h; cases h; exact Nat.le_refl _
 | succ n ih =>
  intro m m' h;have h1 := Kl0 (p := p) m;unfold runN at h;generalize step p m = s at h h1
  cases s with
  | next m1 => exact Nat.le_trans h1 (ih m1 m' h)
  | ended o w => cases h
theorem Calls.drawn {f : FuncId} {args : Array Value} {R : Ending -> World -> Prop} (h : Calls p f args w R) (hr : ∀ e w', R e w' -> ∃ v, e = .returned v) :
  Calls p f args w fun e w' => R e w' /\ w.drawn <= w'.drawn := fun cs => by
 obtain ⟨e, w', fr, r, s, x⟩ := h cs;refine ⟨e, w', fr, ⟨r, ?_⟩, s, x⟩;obtain ⟨v, rfl⟩ := hr e w' r;obtain ⟨n, hn⟩ := s;exact Kjg n _ _ hn
end Go

namespace Go.Proofs.YtcicmplfmcloiaaGreat
open Go.RowKit
def RwG (e : TypeId) (size : Nat) (w : World) (g n c : Nat) (xs : List Value) : Prop := w.ownsRow g e size (.slice (some ⟨g, 0, none⟩) n c) n xs
theorem RwG.obj {e : TypeId} {size : Nat} {w : World} {g n c : Nat} {xs : List Value} (h : RwG e size w g n c xs) : (∃ o, w.heap[g]? = some o) /\ n <= c /\ c <= maxLen := by
  rcases h.2 with ⟨e1, _⟩ | ⟨g', cap, cur, a, hb, hg, hn, hm, r⟩
  · cases e1
  · cases a;exact ⟨⟨_, hg⟩, hn, hm⟩
theorem Pm.rowStartG {e : TypeId} {size : Nat} {w : World} {g n c : Nat} {xs : List Value} (h : RwG e size w g n c xs) : Pm ⟨Kap w g, g⟩ (.row (.slice (some ⟨g, 0, none⟩) n c) e size n xs :: Kr g w) w := by
  obtain ⟨⟨o, ho⟩, _⟩ := h.obj;have hp := Pm.mapStart ho;refine ⟨hp.bel, fun q hq => ?_, ?_, hp.oth, hp.low⟩
  · rcases List.mem_cons.1 hq with rfl | hq
    · exact h
    · exact hp.own q (List.mem_cons_of_mem _ hq)
  · have := List.pairwise_cons.1 hp.apart;exact List.Pairwise.cons (fun q hq x hx => this.1 q hq x hx) this.2
theorem KbK {w0 : Base} {L : List Pc} {w : World} {k g n c : Nat} {e : TypeId} {size : Nat} {xs : List Value} (h : Pm w0 L w) (hk : L[k]? = some (.row (.slice (some ⟨g, 0, none⟩) n c) e size n xs)) : RwG e size w g n c xs := by
  have h1 := h.at_ hk;refine ⟨h1.1, ?_⟩;rcases h1.2 with ⟨e1, _⟩ | ⟨g', cap, cur, a, hb, r⟩
  · cases e1
  · cases a;exact .inr ⟨g, _, cur, rfl, Nat.le_refl _, r⟩
theorem RwG.head {e : TypeId} {size : Nat} {w : World} {g n c m : Nat} {xs : List Value} (h : RwG e size w g n c xs) (hm : m <= n) : RwG e size w g m c (xs.take (m * size)) := by
  obtain ⟨h1, h2⟩ := h;refine ⟨?_, ?_⟩
  · rw [List.length_take, h1];exact Nat.min_eq_left (Nat.mul_le_mul_right _ hm)
  · rcases h2 with ⟨e1, h2⟩ | ⟨g', cap, cur, a1, hb, hgg, hn, hmx, hs1, ht1⟩
    · cases e1
    · cases a1;refine .inr ⟨g, c, cur, rfl, hb, hgg, by omega, hmx, hs1, ?_⟩;rw [<- ht1, List.take_take, Nat.min_eq_left (Nat.mul_le_mul_right _ hm)]
section
variable {P : Program} {N : Fr} {Q : Exit -> Act -> World -> Prop} {E : Env} {w0 : Base} {L : List Pc} {ops : Array Oper} {l : List Oper} {o : Oper}
end
open Go Go.RowKit Go.Shelf Go.Sort
theorem KjU {w w' : World} (h : Go.RowKit.Below w.heap.size w w') (hd : w.drawn <= w'.drawn) : ∃ q os, w' = grow (w.drewN q) os := by
  refine ⟨w'.drawn - w.drawn, w'.heap.extract w.heap.size w'.heap.size, ?_⟩
  have e1 : w'.heap = w.heap ++ w'.heap.extract w.heap.size w'.heap.size := by
    apply Array.ext_getElem?;intro i;by_cases hi : i < w.heap.size
    · rw [Array.getElem?_append_left hi]; exact h.block i hi
    · rw [Array.getElem?_append_right (by omega), Array.getElem?_extract];by_cases h2 : i < w'.heap.size
      · rw [if_pos (by omega), show w.heap.size + (i - w.heap.size) = i by omega]
      · rw [if_neg (by omega), Array.getElem?_eq_none (by omega)]
  have e2 : w.drawn + (w'.drawn - w.drawn) = w'.drawn := by omega
  have h1 := h.os; have h3 := h.tape; have h4 := h.output;obtain ⟨heap, tape, drawn, os, output⟩ := w;obtain ⟨heap', tape', drawn', os', output'⟩ := w';simp only [World.drewN, grow] at *;subst h1 h3 h4;rw [e2, <- e1]
theorem Kg6 {α : Type} [Inhabited α] {c : α -> List Value} {k : Nat} (K : Cel c k) (l : List α) : (flatK c k l.toArray).toList = Ka c l := by
  apply List.ext_getElem?;intro t;by_cases ht : t < l.length * k
  · have k0 : 0 < k := by rcases Nat.eq_zero_or_pos k with h | h; · subst h; omega
                          · exact h
    have hi : t / k < l.length := Nat.div_lt_of_lt_mul (by rwa [Nat.mul_comm] at ht);obtain ⟨x, hx⟩ : ∃ x, l[t / k]? = some x := ⟨_, List.getElem?_eq_getElem hi⟩;have h1 := KcT K hx (t % k) (Nat.mod_lt _ k0);rw [show t / k * k + t % k = t from by rw [Nat.mul_comm]; exact Nat.div_add_mod t k] at h1;rw [h1]
    have hx2 : l.toArray[t / k]! = x := by
      have := (List.getElem?_eq_some_iff.1 hx);simp [getElem!_pos, hi, this.2]
    have hm : t % k < (c x).length := by rw [K.len]; exact Nat.mod_lt _ k0
    simp [flatK, ht, hx, hm]
  · rw [List.getElem?_eq_none (by simp; omega), List.getElem?_eq_none (by rw [Kau K]; omega)]
theorem Kjt (cur : Array Value) (ts : Array Value) (h : ts.size <= cur.size) : (putCells id 0 ts cur).toList.take ts.size = ts.toList := by
  apply List.ext_getElem?;intro j;by_cases hj : j < ts.size
  · rw [List.getElem?_take_of_lt hj, Array.getElem?_toList];have : ts[j]! = ts[j] := getElem!_pos ts j hj;simp [putCells, hj, show j < cur.size by omega]
  · rw [List.getElem?_take_eq_none (by omega), List.getElem?_eq_none (by simp; omega)]
def Kbv {α : Type} (cf : α -> α -> Int) (l l' : List α) : Prop := l'.Perm l /\ l'.Pairwise fun x y => ¬ cf y x < 0
theorem KeG {P : Program} {ρ : Ren} {α : Type} [Inhabited α] (L : SlLaysF0.n6 P ρ) {c : α -> List Value} {k : Nat} (K : Cel c k) (aE : ∀ w, (isAgg (ρ.t 24)).run P w = .ok true w) (zE : ∀ w, (Go.sizeOf (ρ.t 24)).run P w = .ok k w)
    (cf : α -> α -> Int) (hO : SWO (ltOf cf)) (g : Nat) (eg : ∀ args w, (callFunc g args).run P w = .ok (.enter g args) w) (hcmp : ∀ x y w, Calls P g #[.agg (c x).toArray, .agg (c y).toArray] w fun e w' => e = .returned (.int .i64 (cf x y)) /\ Go.RowKit.Below w.heap.size w w')
    {b n cap : Nat} {e : TypeId} {A : Option Addr} {l : List α} {w : World} (hr : w.ownsRow b e k (.slice A n cap) n (Ka c l)) (hl : l.length = n) (hn : n < 4611686018427387904) :
    Calls P (ρ.f 6) #[.slice A n cap, .func (.func g) #[] #[]] w fun en w' => en = .returned (.tuple #[]) /\ ∃ l', Kbv cf l l' /\ w'.ownsRow b e k (.slice A n cap) n (Ka c l') /\ w.grownBy w' (Value.ownBlock (.slice A n cap)) := by
  rcases hr.2 with ⟨hv, h0⟩ | ⟨q, cap', cur, hv, hb, hq, h1, h2, h3, h4⟩
  · cases hv;have : l = [] := List.eq_nil_of_length_eq_zero (by omega);subst this;refine (AnyF.slices_SortFunc_none L none 0 _ w).mono fun en w' ⟨h5, h6⟩ => ⟨h5, [], ⟨List.Perm.refl _, List.Pairwise.nil⟩, ?_, ?_⟩
    · rw [h6]; exact hr
    · rw [h6]; exact ⟨rfl, rfl, rfl, Nat.le_refl _, fun _ _ _ => rfl⟩
  · cases hv;have hqs : q < w.heap.size := (Array.getElem?_eq_some_iff.1 hq).1;have hfl : (flatK c k l.toArray).toList = Ka c l := Kg6 K l;have hsz : (flatK c k l.toArray).size = n * k := by simp [hl]
    have hH : HoldsK c k w q 0 l.toArray := by
      intro j hj;rw [hsz] at hj;refine ⟨?_, by simp [World.frozen?, hq]⟩;have h5 : (cur.toList.take (n * k))[j]? = (flatK c k l.toArray).toList[j]? := by rw [h4, hfl]
      rw [List.getElem?_take_of_lt hj, Array.getElem?_toList, Array.getElem?_toList] at h5;simp only [World.cell?, hq, Nat.zero_add, Option.isSome_none, Bool.false_eq_true, if_false];rw [h5, getElem!_pos _ j (by rw [hsz]; exact hj)];exact Array.getElem?_eq_getElem (by rw [hsz]; exact hj)
    have hcl : CmpLays P g #[] c k cf q 0 l.toArray.size w := fun m os dk hs x y =>
      ((hcmp x y _).drawn fun e w' h => ⟨_, h.1⟩).mono fun e w' ⟨⟨h5, h6⟩, h7⟩ => ⟨h5, KjU h6 h7⟩
    have hc := AnyQ.slices_SortFunc L k aE zE c K.len K.one cf hO g #[] q 0 cap l.toArray w eg hcl hH hqs (by simp only [List.size_toArray]; omega);rw [List.size_toArray, hl] at hc;refine hc.mono ?_;rintro en w' ⟨h5, d', m, os, hp, hs, hw⟩;have hds : d'.size = n := by have := hp.1; simpa [hl] using this
    refine ⟨h5, d'.toList, ⟨?_, ?_⟩, ?_, ?_⟩
    · have h6 := hp.2.2;rw [show d'.extract 0 n = d' from by rw [<- hds]; exact Array.extract_size, show l.toArray.extract 0 n = l.toArray from by rw [<- hl, <- List.size_toArray]; exact Array.extract_size] at h6
      simpa using h6
    · rw [List.pairwise_iff_getElem];intro i j hi hj hij;have hi' : i < d'.size := by simpa using hi
      have hj' : j < d'.size := by simpa using hj
      have h6 := hs i j (Nat.zero_le _) hij (by omega);rw [getElem!_pos _ i hi', getElem!_pos _ j hj'] at h6;simp only [ltOf, decide_eq_false_iff_not] at h6
      simpa using h6
    · have hsz2 : (flatK c k d').size = n * k := by simp [hds]
      have hfl2 : (flatK c k d').toList = Ka c d'.toList := by have := Kg6 K d'.toList; simpa using this
      refine ⟨by rw [Kau K, Array.length_toList, hds], .inr ⟨q, cap, putCells id 0 (flatK c k d') cur, rfl, hb, ?_, h1, h2, by simp [putCells, h3], ?_⟩⟩
      · rw [hw];unfold sortWorldK putRowK;rw [heap_grow_old _ _ (by simpa using hqs)];simp [putRow, mapBlock, Sort.ahead, Array.getElem?_modify, hq, onCells]
      · have hle : n * k <= cap * k := Nat.mul_le_mul_right _ h1;rw [<- hsz2, Kjt _ _ (by rw [hsz2, h3]; exact hle), hfl2]
    · rw [hw];refine ⟨rfl, rfl, rfl, by unfold sortWorldK putRowK; simp, fun i hi hne => ?_⟩;unfold sortWorldK putRowK;rw [heap_grow_old _ _ (by simpa using hi)];have : q ≠ i := fun e => hne (by rw [e]; rfl);simp [putRow, mapBlock, Sort.ahead, Array.getElem?_modify, this]
theorem Keh {α : Type} (key : α -> List Int) {n : Nat} (hk : ∀ x, (key x).length = n) : SWO (ltOf fun x y => Ky (key x) (key y)) := by
  have hl : ∀ x y, (key x).length = (key y).length := fun x y => by rw [hk, hk]
  refine ⟨fun x => ?_, fun x y z h1 h2 => ?_, fun x y z h1 h2 => ?_⟩
  · simp [ltOf, Kc2]
  · simp only [ltOf, decide_eq_true_eq] at h1 h2 ⊢;exact (Kc5 (hl x y) (hl y z) (by omega) (by omega)).2 (.inl h1)
  · simp only [ltOf, decide_eq_false_iff_not] at h1 h2 ⊢;have a1 : Ky (key y) (key x) <= 0 := by have := @KbW (key y) (key x) (hl y x); have := @KbW (key x) (key y) (hl x y); omega
    have a2 : Ky (key z) (key y) <= 0 := by have := @KbW (key z) (key y) (hl z y); have := @KbW (key y) (key z) (hl y z); omega
    have := (Kc5 (hl z y) (hl y x) a2 a1).1;have := @KbW (key x) (key z) (hl x z); have := @KbW (key z) (key x) (hl z x);omega
section
variable {P : Program} {N : Fr} {Q : Exit -> Act -> World -> Prop} {E : Env} {w0 : Base} {L : List Pc} {ops : Array Oper} {l : List Oper} {o : Oper} {α : Type} {c : α -> List Value}
theorem TL.turnRowD {d k n cap : Nat} {A : Option Addr} {e : TypeId} {size : Nat} {xs : List α} {f : FuncId} {fn : Func} {es : List Operand} {ts : Array TypeId} {vs : List Value} (M : List α -> Prop) (hg : o.guard = none) (hd : o.dst = some d) (hN : Nat.blt d N.n = true)
    (ho : o.op = .call { callee := .value (.func f), args := es.toArray, argTypes := ts }) (hx : evs E es = some vs) (hf : P.funcs[f]? = some fn) (hn : (fn.name == "runtime.NumGoroutine") = false) (hb : fn.body.isNone = false)
    (hk : L[k]? = some (.row (.slice A n cap) e size n (Ka c xs))) (hc : ∀ w, Pm w0 L w -> w.ownsRow w0.b e size (.slice A n cap) n (Ka c xs) -> Calls P f vs.toArray w fun en w' => en = .returned (.tuple #[]) /\ ∃ ys, M ys /\ w'.ownsRow w0.b e size (.slice A n cap) n (Ka c ys) /\ w.grownBy w' (Value.ownBlock (.slice A n cap)))
    (h : ∀ ys, M ys -> TL P N ops Q l ((d, .tuple #[]) :: E) (Pm w0 (L.set k (.row (.slice A n cap) e size n (Ka c ys))))) : TL P N ops Q (o :: l) E (Pm w0 L) :=
  TL.call (α := {ys : List α // M ys}) (r := fun _ => .tuple #[]) (I' := fun y => Pm w0 (L.set k (.row (.slice A n cap) e size n (Ka c y.1)))) hg hd hN ho hx hf hn hb (fun w hw => (hc w hw (hw.at_ hk)).mono fun en w' ⟨he, ys, h1, h2, h3⟩ => ⟨⟨ys, h1⟩, he, by
    cases A with
    | none =>
      have hE : w.grownBy w' none := h3;exact hw.turn hk hE h2 (fun g hg => by cases hg) (fun _ _ e => by cases e)
    | some q => exact hw.turn hk h3 h2 (fun g' hg' => .inl hg') (fun _ _ e => by cases e)⟩) (fun y => h y.1 y.2)
end
section
variable {α : Type} [DecidableEq α]
def Kf : List α -> List α
  | [] => []
  | [a] => [a]
  | a :: b :: l => if a = b then Kf (b :: l) else a :: Kf (b :: l)
theorem Kgd : ∀ (l : List α) (a : α), Kf (l ++ [a]) = if l.getLast? = some a then Kf l else Kf l ++ [a]
  | [], a => by simp [Kf]
  | [b], a => by
    show Kf [b, a] = _;simp only [Kf, List.getLast?_singleton, Option.some.injEq];split
    · rename_i h; rw [h]
    · rfl
  | b :: d :: l, a => by
    have ih := Kgd (d :: l) a;have e : (b :: d :: l).getLast? = (d :: l).getLast? := by rw [List.getLast?_cons_cons]
    rw [e];show Kf (b :: d :: (l ++ [a])) = _;rw [Kf];have ih' : Kf (d :: (l ++ [a])) = if (d :: l).getLast? = some a then Kf (d :: l) else Kf (d :: l) ++ [a] := ih;rw [ih', Kf];split <;> split <;> simp
theorem KcL (x : α) : ∀ l : List α, x ∈ Kf l ↔ x ∈ l
  | [] => Iff.rfl
  | [a] => Iff.rfl
  | a :: b :: l => by
    have ih := KcL x (b :: l);rw [Kf];split
    · rename_i h;rw [ih, h, List.mem_cons, List.mem_cons, List.mem_cons];constructor
      · exact fun hh => .inr hh
      · rintro (hh | hh)
        · exact .inl hh
        · exact hh
    · rw [List.mem_cons, ih, List.mem_cons, List.mem_cons];simp [List.mem_cons]
theorem KdN : ∀ l : List α, (Kf l).length <= l.length
  | [] => Nat.le_refl _
  | [a] => Nat.le_refl _
  | a :: b :: l => by
    have ih := KdN (b :: l);rw [Kf];split
    · exact Nat.le_trans ih (Nat.le_succ _)
    · simpa using ih
theorem Ka2 {l : List α} {k : Nat} {x y : α} (hx : l[k]? = some x) (hy : l[k - 1]? = some y) (hk : 1 <= k) : Kf (l.take (k + 1)) = if y = x then Kf (l.take k) else Kf (l.take k) ++ [x] := by
  rw [List.take_add_one, hx];show Kf (l.take k ++ [x]) = _;rw [Kgd]
  have : (l.take k).getLast? = some y := by
    rw [List.getLast?_eq_getElem?, List.length_take, Nat.min_eq_left (by have := (List.getElem?_eq_some_iff.1 hx).1; omega), List.getElem?_take_of_lt (by omega), hy]
  rw [this];simp only [Option.some.injEq]
theorem Ke4 : ∀ l : List α, Kf (l.take 1) = l.take 1
  | [] => rfl
  | a :: l => rfl
theorem KeV {l : List α} (h : l.length < 2) : Kf l = l := by
  match l, h with
  | [], _ => rfl
  | [a], _ => rfl
end
section
variable {P : Program} {N : Fr} {Q : Exit -> Act -> World -> Prop} {E : Env} {w0 : Base} {L : List Pc} {ops : Array Oper} {l : List Oper} {o : Oper} {α : Type} {c : α -> List Value} {k : Nat}
theorem KlD (K : Cel c k) (z : α) (m : Nat) : (Builtin.zeroCells (c z).toArray m).toList = Ka c (List.replicate m z) := by
  apply List.ext_getElem?;intro t;by_cases ht : t < m * k
  · have k0 : 0 < k := by rcases Nat.eq_zero_or_pos k with h | h; · subst h; omega
                          · exact h
    have hi : t / k < m := Nat.div_lt_of_lt_mul (by rwa [Nat.mul_comm] at ht);have hx : (List.replicate m z)[t / k]? = some z := by rw [List.getElem?_replicate, if_pos hi]
    have h1 := KcT K hx (t % k) (Nat.mod_lt _ k0);rw [show t / k * k + t % k = t from by rw [Nat.mul_comm]; exact Nat.div_add_mod t k] at h1;rw [h1];have hm : t % k < (c z).length := by rw [K.len]; exact Nat.mod_lt _ k0
    simp [Builtin.zeroCells, K.len, ht, hm];rw [List.getElem?_eq_getElem hm, Option.getD_some]
  · rw [List.getElem?_eq_none (by simp [Builtin.zeroCells, K.len]; omega), List.getElem?_eq_none (by rw [Kau K]; simp; omega)]
theorem Kb7 {t : TypeId} {x lo : Operand} {I : World -> Prop} {g n cc size q : Nat} {qk : IntKind} {z : Int} (ho : o.op = .slice t x (some lo) none none) (hx : ev E x = some (.slice (some ⟨g, 0, none⟩) n cc)) (hl : ev E lo = some (.int qk z)) (hz : z = (q : Int)) (ht : P.underlying t = some (.slice (P.elem t))) (hs : ∀ w : World, (sizeOf (P.elem t)).run P w = .ok size w) (hk : q < cc) (hn : q <= n) :
    Kl P N o E I (.slice (some ⟨g, q * size, none⟩) (n - q) (cc - q)) := KeC ho hx hl fun w => by
  have h := Kef (P := P) ht hs (some ⟨g, 0, none⟩) n cc q (k := qk) hz hn w;rw [if_neg (by omega), Option.map_some] at h;have : (⟨g, 0, none⟩ : Addr).add (q * size) = ⟨g, q * size, none⟩ := by unfold Addr.add; split <;> simp_all
  rwa [this] at h
theorem KbR {t e : TypeId} {size : Nat} (ht : P.underlying t = some (.slice e)) (hs : ∀ w : World, (sizeOf e).run P w = .ok size w) (g q n cc i : Nat) (hi : i < n) {z : Int} (hz : z = (i : Int)) (w : World) :
    (Instr.indexAt t (.slice (some ⟨g, q * size, none⟩) n cc) (.int .i64 z)).run P w = .ok (.pointer (some ⟨g, 0 + (q + i) * size, none⟩)) w := by
  have := Kec (P := P) ht hs (A := some ⟨g, q * size, none⟩) (b := g) (off := q * size) rfl n cc i hi hz w;rwa [show q * size + i * size = 0 + (q + i) * size by rw [Nat.add_mul]; omega] at this
theorem TL.clearF (K : Cel c k) {t e : TypeId} {s : Operand} {g q n cc m cc2 kk : Nat} {z : α} {xs : List α} (hg : o.guard = none) (hd : o.dst = none) (ho : o.op = .call { callee := .builtin .clear, args := #[s], argTypes := #[t] }) (hs : ev E s = some (.slice (some ⟨g, q * k, none⟩) m cc2))
    (ht : P.underlying t = some (.slice e)) (hz : ∀ w : World, (zeroValue e).run P w = .ok (.agg (c z).toArray) w) (hm : 0 < m) (hq : q + m = xs.length)
    (hk : L[kk]? = some (.row (.slice (some ⟨g, 0, none⟩) n cc) e k n (Ka c xs)))
    (h : TL P N ops Q l E (Pm w0 (L.set kk (.row (.slice (some ⟨g, 0, none⟩) n cc) e k n (Ka c (xs.take q ++ List.replicate m z)))))) : TL P N ops Q (o :: l) E (Pm w0 L) := by
  have e1 : (Ka c (List.replicate m z)).length = m * k := by rw [Kau K, List.length_replicate]
  have e2 : (Ka c xs).length = q * k + m * k := by rw [Kau K, <- hq, Nat.add_mul]
  refine TL.rowclear (zs := Ka c (List.replicate m z)) hg hd ho hs ht hz (KlD K z m) (KB K _) hm hk (by rw [e1, e2]; omega) (xs' := Ka c (xs.take q ++ List.replicate m z)) ?_ h;rw [e1, List.drop_of_length_le (by rw [e2]; omega), List.append_nil, KF, KcC K]
theorem TL.headF (K : Cel c k) {d kk n cc hi : Nat} {t e : TypeId} {x y : Operand} {k2 : IntKind} {A : Option Addr} {xs : List α} (hg : o.guard = none) (hd : o.dst = some d) (hN : Nat.blt d N.n = true)
    (ho : o.op = .slice t x none (some y) none) (hx : ev E x = some (.slice A n cc)) (hy : ev E y = some (.int k2 (hi : Int))) (ht : P.underlying t = some (.slice (P.elem t))) (hs : ∀ w : World, (sizeOf (P.elem t)).run P w = .ok k w)
    (hk : L[kk]? = some (.row (.slice A n cc) e k n (Ka c xs))) (hh : hi <= n) (hc : n <= cc)
    (h : TL P N ops Q l ((d, .slice A hi cc) :: E) (Pm w0 (L.set kk (.row (.slice A hi cc) e k hi (Ka c (xs.take hi)))))) : TL P N ops Q (o :: l) E (Pm w0 L) :=
  TL.rowhead hg hd hN ho hx hy ht hs hk hh hc (KcC K xs hi) h
theorem TL.turnRow2 {d q n cap m : Nat} {A : Option Addr} {e : TypeId} {size : Nat} {xs ys : List α} {f : FuncId} {fn : Func} {es : List Operand} {ts : Array TypeId} {vs : List Value} (hg : o.guard = none) (hd : o.dst = some d) (hN : Nat.blt d N.n = true)
    (ho : o.op = .call { callee := .value (.func f), args := es.toArray, argTypes := ts }) (hx : evs E es = some vs) (hf : P.funcs[f]? = some fn) (hn : (fn.name == "runtime.NumGoroutine") = false) (hb : fn.body.isNone = false)
    (hk : L[q]? = some (.row (.slice A n cap) e size n (Ka c xs))) (hc : ∀ w, Pm w0 L w -> w.ownsRow w0.b e size (.slice A n cap) n (Ka c xs) -> Calls P f vs.toArray w fun en w' => en = .returned (.slice A m cap) /\ w'.ownsRow w0.b e size (.slice A m cap) m (Ka c ys) /\ w.grownBy w' (Value.ownBlock (.slice A n cap)))
    (h : TL P N ops Q l ((d, .slice A m cap) :: E) (Pm w0 (L.set q (.row (.slice A m cap) e size m (Ka c ys))))) : TL P N ops Q (o :: l) E (Pm w0 L) :=
  TL.call (α := Unit) (r := fun _ => .slice A m cap) (I' := fun _ => Pm w0 (L.set q (.row (.slice A m cap) e size m (Ka c ys)))) hg hd hN ho hx hf hn hb (fun w hw => (hc w hw (hw.at_ hk)).mono fun en w' ⟨he, hr, hgr⟩ => ⟨(), he, by
    cases A with
    | none =>
      have hE : w.grownBy w' none := hgr;exact hw.turn hk hE hr (fun g hg => by cases hg) (fun _ _ e => by cases e)
    | some a => exact hw.turn hk hgr hr (fun g' hg' => .inl hg') (fun _ _ e => by cases e)⟩) (fun _ => h)
end
section
variable {α : Type} {key : α -> List Int} {n : Nat}
def KbF (key : α -> List Int) (l : List α) : Prop := l.Pairwise fun x y => Ky (key x) (key y) < 0
theorem KdE (x : α) : ¬ Ky (key x) (key x) < 0 := by rw [Kc2]; omega
theorem Kfo (hk : ∀ x, (key x).length = n) {x y z : α} (h1 : Ky (key x) (key y) < 0) (h2 : Ky (key y) (key z) < 0) : Ky (key x) (key z) < 0 :=
  (Kc5 (by rw [hk, hk]) (by rw [hk, hk]) (by omega) (by omega)).2 (.inl h1)
theorem Kiy (hk : ∀ x, (key x).length = n) {x y : α} (h1 : Ky (key x) (key y) < 0) (h2 : Ky (key y) (key x) < 0) : False := KdE x (Kfo hk h1 h2)
theorem KgQ (hk : ∀ x, (key x).length = n) {x y : α} : 0 < Ky (key x) (key y) ↔ Ky (key y) (key x) < 0 := (KbW (by rw [hk, hk])).symm
theorem Kdg (hk : ∀ x, (key x).length = n) : ∀ {a b : List α}, KbF key a -> KbF key b -> (∀ x, x ∈ a ↔ x ∈ b) -> a = b
  | [], [], _, _, _ => rfl
  | [], y :: b, _, _, h => absurd ((h y).2 List.mem_cons_self) List.not_mem_nil
  | x :: a, [], _, _, h => absurd ((h x).1 List.mem_cons_self) List.not_mem_nil
  | x :: a, y :: b, ha, hb, h => by
    obtain ⟨a1, a2⟩ := List.pairwise_cons.1 ha;obtain ⟨b1, b2⟩ := List.pairwise_cons.1 hb
    have hxy : x = y := by
      rcases List.mem_cons.1 ((h x).1 List.mem_cons_self) with e | e
      · exact e
      · rcases List.mem_cons.1 ((h y).2 List.mem_cons_self) with e2 | e2
        · exact e2.symm
        · exact (Kiy hk (a1 y e2) (b1 x e)).elim
    subst hxy;rw [Kdg hk a2 b2 fun z => ?_];constructor
    · intro hz;rcases List.mem_cons.1 ((h z).1 (List.mem_cons_of_mem _ hz)) with e | e
      · subst e; exact absurd (a1 z hz) (KdE z)
      · exact e
    · intro hz;rcases List.mem_cons.1 ((h z).2 (List.mem_cons_of_mem _ hz)) with e | e
      · subst e; exact absurd (b1 z hz) (KdE z)
      · exact e
theorem KdK [DecidableEq α] (hk : ∀ x, (key x).length = n) : ∀ (l : List α), l.Pairwise (fun x y => ¬ Ky (key y) (key x) < 0) -> (∀ x ∈ l, ∀ y ∈ l, key x = key y -> x = y) -> KbF key (Kf l)
  | [], _, _ => List.Pairwise.nil
  | [a], _, _ => List.pairwise_singleton _ _
  | a :: b :: l, h, hi => by
    obtain ⟨h1, h2⟩ := List.pairwise_cons.1 h;have ih := KdK hk (b :: l) h2 fun x hx y hy => hi x (List.mem_cons_of_mem _ hx) y (List.mem_cons_of_mem _ hy);rw [Kf];split
    · exact ih
    · rename_i hne;refine List.pairwise_cons.2 ⟨fun y hy => ?_, ih⟩;have hy2 := (KcL y (b :: l)).1 hy
      have hle : ∀ z, z ∈ b :: l -> Ky (key a) (key z) <= 0 := fun z hz => by
        have e1 := h1 z hz;have e2 := @KgQ _ key n hk a z;omega
      have hab : Ky (key a) (key b) < 0 := by
        have e0 := hle b List.mem_cons_self;rcases Int.lt_or_eq_of_le e0 with e | e
        · exact e
        · exact absurd (hi a List.mem_cons_self b (List.mem_cons_of_mem _ List.mem_cons_self) ((Ker (by rw [hk, hk])).1 e)) hne
      have hby : Ky (key b) (key y) <= 0 := by
        rcases List.mem_cons.1 hy2 with e | e
        · rw [e, Kc2]; exact Int.le_refl _
        · have e1 := (List.pairwise_cons.1 h2).1 y e;have e2 := @KgQ _ key n hk b y;omega
      exact (Kc5 (by rw [hk, hk]) (by rw [hk, hk]) (by omega) hby).2 (.inl hab)
theorem KlQ (hk : ∀ x, (key x).length = n) {o : List α} {q : Nat} {x : α} (h : KbF key o) (h1 : ∀ y ∈ o.take q, Ky (key y) (key x) < 0) (h2 : ∀ y ∈ o.drop q, Ky (key x) (key y) < 0) : KbF key (o.take q ++ x :: o.drop q) := by
  refine List.pairwise_append.2 ⟨h.sublist (List.take_sublist _ _), List.pairwise_cons.2 ⟨h2, h.sublist (List.drop_sublist _ _)⟩, fun a ha b hb => ?_⟩;rcases List.mem_cons.1 hb with e | e
  · rw [e]; exact h1 a ha
  · exact Kfo hk (h1 a ha) (h2 b e)
theorem Kfg {o : List α} {q : Nat} {x z : α} : z ∈ o.take q ++ x :: o.drop q ↔ z ∈ o \/ z = x := by
  rw [List.mem_append, List.mem_cons];have : z ∈ o ↔ z ∈ o.take q \/ z ∈ o.drop q := by rw [<- List.mem_append, List.take_append_drop]
  rw [this];constructor
  · rintro (h | h | h)
    · exact .inl (.inl h)
    · exact .inr h
    · exact .inl (.inr h)
  · rintro ((h | h) | h)
    · exact .inl h
    · exact .inr (.inr h)
    · exact .inr (.inl h)
end
structure MKey (P : Program) (k : TypeId) {κ : Type} (enc : κ -> Value) (Ok : κ -> Prop) : Prop where
  keyed : Maps.Keyed P k
  lit : ∀ a, Ok a -> ∃ l, keyOf P k (enc a) = some l
  inj : ∀ a b, enc a = enc b -> a = b
def Kag {κ : Type} (enc : κ -> Value) (Ok : κ -> Prop) (o : Obj) (f : κ -> Option Value) : Prop :=
  ∃ (es : Array MapEntry) (clock : Nat), o = .map es clock /\ (∀ e ∈ es.toList, ∃ a, Ok a /\ e.key = enc a) /\ (es.toList.map (·.key)).Nodup /\ ∀ a v, f a = some v ↔ ∃ e ∈ es.toList, e.key = enc a /\ e.val = v
section
variable {P : Program} {t k e : TypeId} {κ : Type} {enc : κ -> Value} {Ok : κ -> Prop} {o : Obj} {g : Nat} {f : κ -> Option Value} {w : World}
theorem Ke7 (enc : κ -> Value) (Ok : κ -> Prop) : Kag enc Ok (.map #[] 0) (fun _ => none) :=
  ⟨#[], 0, rfl, fun e h => absurd h List.not_mem_nil, List.nodup_nil, fun a v => ⟨fun h => by (cases h), fun ⟨e, h, _⟩ => absurd h List.not_mem_nil⟩⟩
theorem Kag.find {es : Array MapEntry} {clock : Nat} (h : Kag enc Ok (.map es clock) f) (K : MKey P k enc Ok) {a : κ} (ha : Ok a) (w : World) :
    ((Instr.findKey k (enc a) es.toList).run P w = .ok none w /\ f a = none) \/ ∃ j e, (Instr.findKey k (enc a) es.toList).run P w = .ok (some (j, e.val)) w /\ es[j]? = some e /\ e.key = enc a /\ f a = some e.val := by
  obtain ⟨es', clock', he, hk, hnd, hf⟩ := h;cases he;obtain ⟨l, hl⟩ := K.lit a ha;rcases K.keyed.find w hl es.toList (fun e he => by obtain ⟨b, hb, e1⟩ := hk e he; rw [e1]; exact K.lit b hb) with ⟨h1, h2⟩ | ⟨j, e, h1, h2, h3⟩
  · refine .inl ⟨h1, ?_⟩
    cases hfa : f a with
    | none => rfl
    | some v =>
      obtain ⟨e, he, e1, _⟩ := (hf a v).1 hfa;exact absurd e1 (h2 e he)
  · refine .inr ⟨j, e, h1, by simpa using h2, h3, (hf a e.val).2 ⟨e, List.mem_of_getElem? h2, h3, rfl⟩⟩
theorem Kag.look (h : Kag enc Ok o f) (K : MKey P k enc Ok) (ht : P.underlying t = some (.map k e)) {z : Value} (hz : ∀ w : World, (zeroValue e).run P w = .ok z w) (hb : w.heap[g]? = some o) {a : κ} (ha : Ok a) (co : Bool) :
    (Instr.lookup t (.map (some g)) (enc a) co).run P w = .ok (if co then .tuple #[(f a).getD z, .bool (f a).isSome] else (f a).getD z) w := by
  obtain ⟨es, clock, he, _⟩ := id h;subst he;obtain ⟨l, hl⟩ := K.lit a ha;have hck := K.keyed.check w es.isEmpty hl;have hgo : (getObj g).run P w = .ok (.map es clock) w := by simp [getObj, Sem.run, hb]
  unfold Instr.lookup;rcases h.find K ha w with ⟨h1, h2⟩ | ⟨j, e', h1, h2, h3, h4⟩
  · simp [run_underlying ht, hgo, hck, h1, hz, h2]
  · simp [run_underlying ht, hgo, hck, h1, h4]
theorem Kag.put (h : Kag enc Ok o f) (K : MKey P k enc Ok) (ht : P.underlying t = some (.map k e)) (hb : w.heap[g]? = some o) {a : κ} (ha : Ok a) (v : Value) [DecidableEq κ] :
    ∃ o' w', (Instr.mapUpdate t (.map (some g)) (enc a) v).run P w = .ok () w' /\ w'.heap[g]? = some o' /\ Kag enc Ok o' (fun x => if x = a then some v else f x) /\ w.grownBy w' (some g) := by
  obtain ⟨es, clock, he, hk, hnd, hf⟩ := id h;subst he;obtain ⟨l, hl⟩ := K.lit a ha;have hck := K.keyed.check w false hl;have hst := K.keyed.stays w hl;have hgo : (getObj g).run P w = .ok (.map es clock) w := by simp [getObj, Sem.run, hb]
  have hlt : g < w.heap.size := (Array.getElem?_eq_some_iff.1 hb).1;have hso : ∀ ob : Obj, (setObj g ob).run P w = .ok () (w.putObj g ob) := fun ob => by simp [setObj, Sem.run, hb, World.putObj]
  rcases h.find K ha w with ⟨h1, h2⟩ | ⟨j, e', h1, h2, h3, h4⟩
  · refine ⟨.map (es.push ⟨enc a, v, clock⟩) (clock + 1), w.putObj g (.map (es.push ⟨enc a, v, clock⟩) (clock + 1)), ?_, ?_, ⟨_, _, rfl, ?_, ?_, ?_⟩, grownBy_putObj' w g _⟩
    · unfold Instr.mapUpdate;simp [run_underlying ht, hgo, hck, h1, hso]
    · simp [World.putObj, hlt]
    · intro e1 he1;simp only [Array.toList_push, List.mem_append, List.mem_singleton] at he1;rcases he1 with he1 | rfl
      · exact hk e1 he1
      · exact ⟨a, ha, rfl⟩
    · simp only [Array.toList_push, List.map_append, List.map_cons, List.map_nil];refine List.nodup_append.2 ⟨hnd, List.pairwise_singleton _ _, fun x hx y hy e1 => ?_⟩;rw [List.mem_singleton] at hy;obtain ⟨e2, he2, e3⟩ := List.mem_map.1 hx;have := (hf a e2.val).2 ⟨e2, he2, by rw [e3, e1, hy], rfl⟩;rw [h2] at this;cases this
    · intro x u;simp only [Array.toList_push, List.mem_append, List.mem_singleton];show (if x = a then some v else f x) = some u ↔ _;by_cases e1 : x = a
      · subst e1;rw [if_pos rfl];constructor
        · intro hu;cases hu;exact ⟨_, .inr rfl, rfl, rfl⟩
        · rintro ⟨e2, he2 | rfl, e3, e4⟩
          · have := (hf x e2.val).2 ⟨e2, he2, e3, rfl⟩;rw [h2] at this;cases this
          · rw [<- e4]
      · rw [if_neg e1, hf];constructor
        · rintro ⟨e2, he2, e3⟩;exact ⟨e2, .inl he2, e3⟩
        · rintro ⟨e2, he2 | rfl, e3⟩
          · exact ⟨e2, he2, e3⟩
          · exact absurd (K.inj _ _ e3.1).symm e1
  · have hjl : j < es.size := (Array.getElem?_eq_some_iff.1 h2).1;refine ⟨.map (es.modify j fun e => { key := enc a, val := v, born := e.born }) clock, w.putObj g (.map (es.modify j fun e => { key := enc a, val := v, born := e.born }) clock), ?_, ?_, ⟨_, _, rfl, ?_, ?_, ?_⟩, grownBy_putObj' w g _⟩
    · unfold Instr.mapUpdate;simp [run_underlying ht, hgo, hck, h1, h2, h3, hst, hso]
    · simp [World.putObj, hlt]
    all_goals
      have hm : (es.modify j fun e => { key := enc a, val := v, born := e.born }).toList = es.toList.set j ⟨enc a, v, e'.born⟩ := by
        refine List.ext_getElem? fun i => ?_;rw [Array.getElem?_toList, Array.getElem?_modify, List.getElem?_set];by_cases e1 : j = i
        · subst e1;rw [if_pos rfl, if_pos rfl, h2, if_pos (by simpa using hjl)]
          rfl
        · rw [if_neg e1, if_neg e1, Array.getElem?_toList]
      rw [hm]
    · intro e1 he1;rcases List.mem_or_eq_of_mem_set he1 with h5 | rfl
      · exact hk e1 h5
      · exact ⟨a, ha, rfl⟩
    · have : (es.toList.set j ⟨enc a, v, e'.born⟩).map (·.key) = es.toList.map (·.key) := by
        rw [List.map_set];refine List.ext_getElem? fun i => ?_;rw [List.getElem?_set];by_cases e1 : j = i
        · subst e1;rw [if_pos rfl, if_pos (by simpa using hjl), List.getElem?_map, Array.getElem?_toList, h2];simp [h3]
        · rw [if_neg e1]
      rw [this];exact hnd
    · have hdist : ∀ i e1, es.toList[i]? = some e1 -> e1.key = enc a -> i = j := fun i e1 hi hk1 => by
        have hi' : i < (es.toList.map (·.key)).length := by rw [List.length_map]; exact (List.getElem?_eq_some_iff.1 hi).1
        refine (List.getElem?_inj hi' hnd).1 ?_;rw [List.getElem?_map, List.getElem?_map, hi, Array.getElem?_toList, h2];simp [hk1, h3]
      intro x u;show (if x = a then some v else f x) = some u ↔ _;by_cases e1 : x = a
      · subst e1;rw [if_pos rfl];constructor
        · intro hu;cases hu;exact ⟨⟨enc x, v, e'.born⟩, List.mem_set (by rw [Array.length_toList]; exact hjl) _, rfl, rfl⟩
        · rintro ⟨e2, he2, e3, e4⟩;obtain ⟨i, hi⟩ := List.getElem?_of_mem he2;rw [List.getElem?_set] at hi;by_cases e5 : j = i
          · rw [if_pos e5, if_pos (by rw [Array.length_toList]; exact hjl)] at hi;cases hi;rw [<- e4]
          · rw [if_neg e5] at hi;exact absurd (hdist i e2 hi e3).symm e5
      · rw [if_neg e1, hf];constructor
        · rintro ⟨e2, he2, e3, e4⟩;obtain ⟨i, hi⟩ := List.getElem?_of_mem he2
          have hij : j ≠ i := fun hh => by
            subst hh;rw [Array.getElem?_toList, h2] at hi;cases hi;rw [h3] at e3;exact e1 (K.inj _ _ e3).symm
          exact ⟨e2, List.mem_of_getElem? (i := i) (by rw [List.getElem?_set, if_neg hij]; exact hi), e3, e4⟩
        · rintro ⟨e2, he2, e3, e4⟩;rcases List.mem_or_eq_of_mem_set he2 with h5 | rfl
          · exact ⟨e2, h5, e3, e4⟩
          · exact absurd (K.inj _ _ e3).symm e1
end
section
variable {P : Program} {N : Fr} {Q : Exit -> Act -> World -> Prop} {E : Env} {w0 : Base} {L : List Pc} {ops : Array Oper} {l : List Oper} {o : Oper} {κ : Type} {enc : κ -> Value} {Ok : κ -> Prop} {t k e : TypeId}
theorem KcG {x y : Operand} {g i : Nat} {ob : Obj} {f : κ -> Option Value} {a : κ} {z : Value} (ho : o.op = .lookup t x y false) (hx : ev E x = some (.map (some g))) (hy : ev E y = some (enc a)) (K : MKey P k enc Ok) (ht : P.underlying t = some (.map k e)) (hz : ∀ w : World, (zeroValue e).run P w = .ok z w) (hk : L[i]? = some (.oth g ob)) (hm : Kag enc Ok ob f) (ha : Ok a) {v : Value} (hv : (f a).getD z = v) :
    Kl P N o E (Pm w0 L) v := fun ac w hac hw => by
  unfold execOp; rw [ho];subst hv;simp [hac.eval hx, hac.eval hy, hm.look K ht hz (hw.at_ hk).1 ha false]
theorem Kk1 {x y : Operand} {g i : Nat} {ob : Obj} {f : κ -> Option Value} {a : κ} {z : Value} (ho : o.op = .lookup t x y true) (hx : ev E x = some (.map (some g))) (hy : ev E y = some (enc a)) (K : MKey P k enc Ok) (ht : P.underlying t = some (.map k e)) (hz : ∀ w : World, (zeroValue e).run P w = .ok z w) (hk : L[i]? = some (.oth g ob)) (hm : Kag enc Ok ob f) (ha : Ok a) {v : Value} {b : Bool} (hv : (f a).getD z = v) (hb : (f a).isSome = b) :
    Kl P N o E (Pm w0 L) (.tuple #[v, .bool b]) := fun ac w hac hw => by
  unfold execOp; rw [ho];subst hv hb;simp [hac.eval hx, hac.eval hy, hm.look K ht hz (hw.at_ hk).1 ha true]
theorem TL.mapsetG {x y z : Operand} {g i : Nat} {ob : Obj} {f : κ -> Option Value} {a : κ} {v : Value} [DecidableEq κ] (hg : o.guard = none) (hd : o.dst = none) (ho : o.op = .mapUpdate t x y z) (hx : ev E x = some (.map (some g))) (hy : ev E y = some (enc a)) (hz : ev E z = some v)
    (K : MKey P k enc Ok) (ht : P.underlying t = some (.map k e)) (hk : L[i]? = some (.oth g ob)) (hnew : KcD w0 g) (hm : Kag enc Ok ob f) (ha : Ok a)
    (h : ∀ ob', Kag enc Ok ob' (fun x => if x = a then some v else f x) -> TL P N ops Q l E (Pm w0 (L.set i (.oth g ob')))) : TL P N ops Q (o :: l) E (Pm w0 L) := fun ac w hac hw =>
  wpList_plain hg fun K' hK => by
    obtain ⟨ob', w', hrun, hob, hm', hgr⟩ := hm.put K ht (hw.at_ hk).1 ha v
    have hex : (execOp ac.eval o).run P w = .ok .skip w' := by
      unfold execOp; rw [ho];simp only [hac.eval hx, hac.eval hy, hac.eval hz, Sem.run_bind, hrun, Result.andThen_ok, Sem.run_pure]
    unfold Oper.wp;rw [hex];show K' (ac.put o.dst undef) _;rw [hd];exact hK _ _ (h ob' hm' _ _ (hac.put0 _) (hw.turnO hk hnew hgr hob))
end
theorem KfN {P : Program} {k : TypeId} {q : IntKind} (hk : P.underlying k = some (.int q)) : MKey P k (Value.int q) (fun a => (Lit.int q a).wf = true) :=
  ⟨Maps.int_keyed hk, fun a ha => ⟨_, Maps.keyOf_int_mk hk ha⟩, fun a b h => by cases h; rfl⟩
section
variable {P : Program} {N : Fr} {Q : Exit -> Act -> World -> Prop} {E : Env} {I : World -> Prop} {i l : Nat} {c : Code}
theorem TC.scope_ (h : TC P N (Exit.noGoto Q) c E I) : TC P N Q (.scope c) E I := fun a w ha hw => wp_scope_straight (h a w ha hw)
theorem TC.label_ (h : TX N Q .normal E I) : TC P N Q (.label l) E I := fun a w ha hw => wp_label (h a w ha hw)
theorem TX.scope_r (h : TX N Q .ret E I) : TX N (Exit.noGoto Q) .ret E I := h
end
def Kad {κ : Type} (enc : κ -> Value) (Ok : κ -> Prop) (o : Obj) (f : κ -> Option Value) : Prop :=
 ∃ (es : Array MapEntry) (clock : Nat), o = .map es clock /\ Kag enc Ok o f /\ (es.toList.map (·.born)).Nodup /\ ∀ e ∈ es.toList, e.born < clock
def Kik {κ : Type} (enc : κ -> Value) (o : Obj) (a : κ) (s : Nat) : Prop := ∃ (es : Array MapEntry) (clock : Nat), o = .map es clock /\ ∃ (j : Nat) (e : MapEntry), es[j]? = some e /\ e.key = enc a /\ e.born = s
section
variable {P : Program} {t k e : TypeId} {κ : Type} {enc : κ -> Value} {Ok : κ -> Prop} {o : Obj} {g : Nat} {f : κ -> Option Value} {w : World}
theorem KgM (enc : κ -> Value) (Ok : κ -> Prop) : Kad enc Ok (.map #[] 0) (fun _ => none) := ⟨#[], 0, rfl, Ke7 enc Ok, List.nodup_nil, fun e h => absurd h List.not_mem_nil⟩
theorem Kad.toG (h : Kad enc Ok o f) : Kag enc Ok o f := by obtain ⟨_, _, _, h1, _⟩ := h; exact h1
theorem Kew (es : Array MapEntry) (j : Nat) (F : MapEntry -> MapEntry) {e : MapEntry} (h : es[j]? = some e) : (es.modify j F).toList = es.toList.set j (F e) := by
 have hjl := (Array.getElem?_eq_some_iff.1 h).1;refine List.ext_getElem? fun i => ?_;rw [Array.getElem?_toList, Array.getElem?_modify, List.getElem?_set];by_cases e1 : j = i
 ·subst e1;rw [if_pos rfl, if_pos rfl, h, if_pos (by simpa using hjl)]
  rfl
 ·rw [if_neg e1, if_neg e1, Array.getElem?_toList]
theorem Khb {es : Array MapEntry} {clock : Nat} (h1 : (es.toList.map (·.born)).Nodup) (h2 : ∀ e ∈ es.toList, e.born < clock) (x : Value) (v : Value) :
  (((es.push ⟨x, v, clock⟩).toList.map (·.born)).Nodup) /\ ∀ e ∈ (es.push ⟨x, v, clock⟩).toList, e.born < clock + 1 := by
 constructor
 ·simp only [Array.toList_push, List.map_append, List.map_cons, List.map_nil];refine List.nodup_append.2 ⟨h1, List.pairwise_singleton _ _, fun a ha b hb e1 => ?_⟩;rw [List.mem_singleton] at hb;obtain ⟨e2, he2, e3⟩ := List.mem_map.1 ha;have := h2 e2 he2;omega
 ·intro e he;simp only [Array.toList_push, List.mem_append, List.mem_singleton] at he;rcases he with he | he
  ·have := h2 e he; omega
  ·rw [he]; exact Nat.lt_succ_self _
theorem KfT {es : Array MapEntry} {clock j : Nat} {e : MapEntry} (h1 : (es.toList.map (·.born)).Nodup) (h2 : ∀ e ∈ es.toList, e.born < clock) (hj : es[j]? = some e) (F : MapEntry -> MapEntry) (hF : (F e).born = e.born) :
  (((es.modify j F).toList.map (·.born)).Nodup) /\ ∀ e ∈ (es.modify j F).toList, e.born < clock := by
 rw [Kew es j F hj];constructor
 ·have : (es.toList.set j (F e)).map (·.born) = es.toList.map (·.born) := by
   rw [List.map_set];refine List.ext_getElem? fun i => ?_;rw [List.getElem?_set];by_cases e1 : j = i
   ·subst e1;rw [if_pos rfl, if_pos (by rw [List.length_map, Array.length_toList]; exact (Array.getElem?_eq_some_iff.1 hj).1), List.getElem?_map, Array.getElem?_toList, hj];simp [hF]
   ·rw [if_neg e1]
  rw [this]; exact h1
 ·intro x hx;rcases List.mem_or_eq_of_mem_set hx with h3 | h3
  ·exact h2 x h3
  ·rw [h3, hF]; exact h2 e (List.mem_of_getElem? (i := j) (by rw [Array.getElem?_toList]; exact hj))
theorem Kad.put (h : Kad enc Ok o f) (K : MKey P k enc Ok) (ht : P.underlying t = some (.map k e)) (hb : w.heap[g]? = some o) {a : κ} (ha : Ok a) (v : Value) [DecidableEq κ] :
  ∃ o' w', (Instr.mapUpdate t (.map (some g)) (enc a) v).run P w = .ok () w' /\ w' = w.putObj g o' /\ Kad enc Ok o' (fun x => if x = a then some v else f x) /\
   ∃ (es : Array MapEntry) (clock : Nat), o = .map es clock /\ ((o' = .map (es.push ⟨enc a, v, clock⟩) (clock + 1) /\ f a = none /\ (Instr.findKey k (enc a) es.toList).run P w = .ok none w) \/ ∃ j e, es[j]? = some e /\ e.key = enc a /\ f a = some e.val /\ o' = .map (es.modify j fun e => { key := enc a, val := v, born := e.born }) clock /\ (Instr.findKey k (enc a) es.toList).run P w = .ok (some (j, e.val)) w) := by
 obtain ⟨es, clock, he, hG, hn, hlt⟩ := id h;obtain ⟨o1, w1, hrun, hob, hG1, _⟩ := hG.put K ht hb ha v;subst he;obtain ⟨l, hl⟩ := K.lit a ha;have hck := K.keyed.check w false hl;have hst := K.keyed.stays w hl;have hgo : (getObj g).run P w = .ok (.map es clock) w := by simp [getObj, Sem.run, hb]
 have hgl : g < w.heap.size := (Array.getElem?_eq_some_iff.1 hb).1;have hso : ∀ ob : Obj, (setObj g ob).run P w = .ok () (w.putObj g ob) := fun ob => by simp [setObj, Sem.run, hb, World.putObj]
 have hput : ∀ ob : Obj, (w.putObj g ob).heap[g]? = some ob := fun ob => by simp [World.putObj, hgl]
 rcases hG.find K ha w with ⟨h1, h2⟩ | ⟨j, e', h1, h2, h3, h4⟩
 ·have hr : (Instr.mapUpdate t (.map (some g)) (enc a) v).run P w = .ok () (w.putObj g (.map (es.push ⟨enc a, v, clock⟩) (clock + 1))) := by
   unfold Instr.mapUpdate;simp [run_underlying ht, hgo, hck, h1, hso]
  rw [hr] at hrun;cases hrun;rw [hput] at hob;cases hob;exact ⟨_, _, hr, rfl, ⟨_, _, rfl, hG1, (Khb hn hlt _ _).1, (Khb hn hlt _ _).2⟩, es, clock, rfl, .inl ⟨rfl, h2, h1⟩⟩
 ·have hr : (Instr.mapUpdate t (.map (some g)) (enc a) v).run P w = .ok () (w.putObj g (.map (es.modify j fun e => { key := enc a, val := v, born := e.born }) clock)) := by
   unfold Instr.mapUpdate;simp [run_underlying ht, hgo, hck, h1, h2, h3, hst, hso]
  rw [hr] at hrun;cases hrun;rw [hput] at hob;cases hob;exact ⟨_, _, hr, rfl, ⟨_, _, rfl, hG1, (KfT hn hlt h2 _ rfl).1, (KfT hn hlt h2 _ rfl).2⟩, es, clock, rfl, .inr ⟨j, e', h2, h3, h4, rfl, h1⟩⟩
theorem Klk (es : Array MapEntry) (j : Nat) (F G : MapEntry -> MapEntry) {e : MapEntry} (h : es[j]? = some e) (hE : F e = G e) : es.modify j F = es.modify j G := by
 apply Array.toList_inj.1;rw [Kew es j F h, Kew es j G h, hE]
theorem Kad.store (h : Kad enc Ok o f) (K : MKey P k enc Ok) (ht : P.underlying t = some (.map k e)) (hb : w.heap[g]? = some o) {a : κ} (ha : Ok a) {s : Nat} (hs : Kik enc o a s) (v : Value) [DecidableEq κ] :
  ∃ o', (Instr.entryStore t (.map (some g)) (.int .i64 ((s : Nat) : Int)) v).run P w = .ok () (w.putObj g o') /\ Kad enc Ok o' (fun x => if x = a then some v else f x) := by
 obtain ⟨o', w', _, _, hR, es, clock, he, hc⟩ := h.put K ht hb ha v;obtain ⟨es1, clock1, he1, hG, hn, hlt⟩ := h;rw [he] at he1;cases he1;subst he;obtain ⟨es2, clock2, he2, q, e2, hq, hqk, hqs⟩ := hs;cases he2;have hgo : (getObj g).run P w = .ok (.map es clock) w := by simp [getObj, Sem.run, hb]
 have hso : ∀ ob : Obj, (setObj g ob).run P w = .ok () (w.putObj g ob) := fun ob => by simp [setObj, Sem.run, hb, World.putObj]
 rcases hc with ⟨h1, h2, h3⟩ | ⟨j, e', h1, h2, h3, h4, h5⟩
 ·obtain ⟨es3, clock3, he3, hk3, hnd3, hf3⟩ := hG;cases he3;have := (hf3 a e2.val).2 ⟨e2, List.mem_of_getElem? (i := q) (by rw [Array.getElem?_toList]; exact hq), hqk, rfl⟩;rw [h2] at this;cases this
 ·have hjq : j = q := by
   obtain ⟨es3, clock3, he3, hk3, hnd3, hf3⟩ := hG;cases he3;have hj' : j < (es.toList.map (·.key)).length := by rw [List.length_map, Array.length_toList]; exact (Array.getElem?_eq_some_iff.1 h1).1
   refine (List.getElem?_inj hj' hnd3).1 ?_;rw [List.getElem?_map, List.getElem?_map, Array.getElem?_toList, Array.getElem?_toList, h1, hq];simp [h2, hqk]
  subst hjq;rw [h1] at hq;cases hq
  have hfi : es.findIdx? (fun e => (e.born : Int) == (s : Int)) = some j := by
   rw [Array.findIdx?_eq_some_iff_getElem];obtain ⟨hjl, hje⟩ := Array.getElem?_eq_some_iff.1 h1;refine ⟨hjl, by rw [hje, hqs]; simp, fun i hi => ?_⟩;have hil : i < es.size := by omega
   simp only [beq_iff_eq];intro e9;have e9' : es[i].born = s := by omega
   have hi' : i < (es.toList.map (·.born)).length := by simpa using hil
   have : i = j := by
    refine (List.getElem?_inj hi' hn).1 ?_;rw [List.getElem?_map, List.getElem?_map, Array.getElem?_toList, Array.getElem?_toList, h1, Array.getElem?_eq_getElem hil];simp [e9', hqs]
   omega
  refine ⟨o', ?_, hR⟩;subst h4;have hm : (es.modify j fun e => { e with val := v }) = es.modify j fun e => { key := enc a, val := v, born := e.born } := Klk es j _ _ h1 (by rw [h2]);unfold Instr.entryStore;simp [hgo, asInt, asIntOf, hfi, hso, hm]
theorem Kg3 : ∀ {p F : List Nat}, p.Nodup -> (∀ f ∈ p, f ∈ F) -> p.length <= F.length
 | [], _, _, _ => Nat.zero_le _
 | a :: p, F, h, hs => by
  obtain ⟨h1, h2⟩ := List.nodup_cons.1 h;have := Kg3 (F := F.erase a) h2 fun f hf => (List.mem_erase_of_ne (fun e => h1 (by rw [<- e]; exact hf))).2 (hs f (List.mem_cons_of_mem _ hf));rw [List.length_erase_of_mem (hs a List.mem_cons_self)] at this;have h3 : 0 < F.length := List.length_pos_of_mem (hs a List.mem_cons_self);rw [List.length_cons];omega
def ItR {κ : Type} (enc : κ -> Value) (Ok : κ -> Prop) (g : Nat) (ob oi : Obj) (f : κ -> Option Value) (n : Nat) (ds : List (κ × Value)) : Prop :=
 ∃ (es : Array MapEntry) (clock since : Nat) (seen : Array Nat) (c0 : Nat) (des : List MapEntry), ob = .map es clock /\ oi = .mapIter (some g) since seen c0 /\ Kad enc Ok ob f /\ es.size = n /\ (∀ x ∈ es.toList, x.born < since) /\ since <= c0 /\ since <= clock /\
  seen.toList = des.map (·.born) /\ (∀ x ∈ des, x ∈ es.toList) /\ seen.toList.Nodup /\ des.map (fun x => (x.key, x.val)) = ds.map (fun p => (enc p.1, p.2)) /\ (∀ p ∈ ds, Ok p.1 /\ f p.1 = some p.2) /\ (seen.size = 0 \/ c0 = clock)
variable {ob oi : Obj} {n : Nat} {ds : List (κ × Value)}
theorem ItR.start {es : Array MapEntry} {clock : Nat} (h : Kad enc Ok (.map es clock) f) : ItR enc Ok g (.map es clock) (.mapIter (some g) clock #[] clock) f es.size [] := by
 refine ⟨es, clock, clock, #[], clock, [], rfl, rfl, h, rfl, ?_, Nat.le_refl _, Nat.le_refl _, rfl, fun x hx => absurd hx List.not_mem_nil, List.nodup_nil, rfl, fun p hp => absurd hp List.not_mem_nil, .inl rfl⟩;obtain ⟨es', clock', he, _, _, hlt⟩ := h;cases he;exact hlt
theorem ItR.map (h : ItR enc Ok g ob oi f n ds) : Kad enc Ok ob f := by obtain ⟨_, _, _, _, _, _, _, _, h1, _⟩ := h; exact h1
theorem ItR.ok (h : ItR enc Ok g ob oi f n ds) : ∀ p ∈ ds, Ok p.1 /\ f p.1 = some p.2 := by obtain ⟨_, _, _, _, _, _, _, _, _, _, _, _, _, _, _, _, _, h1, _⟩ := h; exact h1
theorem ItR.keys {k : TypeId} (h : ItR enc Ok g ob oi f n ds) (K : MKey P k enc Ok) : (ds.map (·.1)).Nodup := by
 obtain ⟨es, clock, since, seen, c0, des, he, hi, hm, hn, hlt, h1, h2, h3, h4, h5, h6, h7, h8⟩ := h;obtain ⟨es', clock', he', hG, hnb, _⟩ := hm;subst he;cases he';obtain ⟨es3, clock3, he3, hk3, hnd3, hf3⟩ := hG;cases he3
 have hdes : (des.map (·.key)).Nodup := by
  have hnd : des.Pairwise (fun x y => x.born ≠ y.born) := by rw [h3] at h5; exact List.pairwise_map.1 h5
  have : des.Pairwise (fun x y => x.key ≠ y.key) := by
   refine hnd.imp_of_mem ?_;intro x y hx hy hxy hk;obtain ⟨i, hi⟩ := List.getElem?_of_mem (h4 x hx);obtain ⟨j, hj⟩ := List.getElem?_of_mem (h4 y hy);have hi' : i < (es.toList.map (·.key)).length := by rw [List.length_map]; exact (List.getElem?_eq_some_iff.1 hi).1
   have : i = j := (List.getElem?_inj hi' hnd3).1 (by rw [List.getElem?_map, List.getElem?_map, hi, hj]; simp [hk]);subst this;rw [hi] at hj;cases hj;exact hxy rfl
  exact List.pairwise_map.2 this
 have he : des.map (·.key) = ds.map (fun p => enc p.1) := by
  have := congrArg (List.map Prod.fst) h6
  simpa [List.map_map, Function.comp_def] using this
 rw [he] at hdes;have h9 := List.pairwise_map.1 hdes;exact List.pairwise_map.2 (h9.imp fun hne hh => hne (by rw [hh]))
theorem ItR.next {k : TypeId} (K : MKey P k enc Ok) {it : Nat} (h : ItR enc Ok g ob oi f n ds) (hob : w.heap[g]? = some ob) (hoi : w.heap[it]? = some oi) (ty : TypeId) :
  ((Instr.next (.pointer (some ⟨it, 0, none⟩)) false ty).run P w = .ok (.tuple #[.bool false]) w /\ ∀ a v, f a = some v -> (a, v) ∈ ds) \/
  ∃ a v oi' w', (Instr.next (.pointer (some ⟨it, 0, none⟩)) false ty).run P w = .ok (.tuple #[.bool true, enc a, v]) w' /\ w.grownBy w' (some it) /\ w'.heap[it]? = some oi' /\ Ok a /\ f a = some v /\ a ∉ ds.map (·.1) /\ ItR enc Ok g ob oi' f n (ds ++ [(a, v)]) /\ ds.length < n := by
 obtain ⟨es, clock, since, seen, c0, des, he, hi, hm, hn, hlt, h1, h2, h3, h4, h5, h6, h7, h8⟩ := h;have hm0 := hm;obtain ⟨es', clock', he', hG, hnb, hcl⟩ := hm;subst he;cases he';have hG0 := hG;obtain ⟨es3, clock3, he3, hk3, hnd3, hf3⟩ := hG;cases he3;subst hi
 have dec : ∀ x ∈ es.toList, ∃ a, Ok a /\ x.key = enc a /\ f a = some x.val := fun x hx => by
  obtain ⟨a, ha, hk⟩ := hk3 x hx;exact ⟨a, ha, hk, (hf3 a x.val).2 ⟨x, hx, hk, rfl⟩⟩
 have hlen : des.length = ds.length := by have := congrArg List.length h6; simpa using this
 have hseen : ∀ x ∈ es.toList, seen.contains x.born = true -> x ∈ des := fun x hx hc => by
  have hb : x.born ∈ seen.toList := by simpa using hc
  rw [h3] at hb;obtain ⟨y, hy, hyb⟩ := List.mem_map.1 hb;obtain ⟨i, hi⟩ := List.getElem?_of_mem hx;obtain ⟨j, hj⟩ := List.getElem?_of_mem (h4 y hy);have hi' : i < (es.toList.map (·.born)).length := by rw [List.length_map]; exact (List.getElem?_eq_some_iff.1 hi).1
  have : i = j := (List.getElem?_inj hi' hnb).1 (by rw [List.getElem?_map, List.getElem?_map, hi, hj]; simp [hyb]);subst this;rw [hi] at hj;cases hj;exact hy
 rcases run_next_at (P := P) w ty it g since c0 seen es clock hoi hob hlt h1 with ⟨e0, hr⟩ | ⟨x, hx, w1, hw1, hr⟩
 ·refine .inl ⟨hr, fun a v hav => ?_⟩;obtain ⟨x, hx, hxk, hxv⟩ := (hf3 a v).1 hav
  have hc : seen.contains x.born = true := by
   cases hc : seen.contains x.born with
   | true => rfl
   | false =>
    have : x ∈ (leftOf es seen) := by unfold leftOf; rw [Array.mem_filter]; exact ⟨by simpa using hx, by rw [hc]; rfl⟩
    have := Array.size_pos_of_mem this;omega
  have hxd := hseen x hx hc;have : (x.key, x.val) ∈ des.map (fun x => (x.key, x.val)) := List.mem_map.2 ⟨x, hxd, rfl⟩;rw [h6] at this;obtain ⟨p, hp, hpe⟩ := List.mem_map.1 this;have hp7 := h7 p hp;have e1 : enc p.1 = enc a := by have := congrArg Prod.fst hpe; rw [<- hxk]; exact this
  have e2 : p.2 = v := by have := congrArg Prod.snd hpe; rw [<- hxv]; exact this
  have e3 := K.inj _ _ e1;rw [<- e3, <- e2];exact hp
 ·have hx2 : x ∈ es.toList /\ seen.contains x.born = false := by
   have := Array.mem_toList_iff.1 hx;unfold leftOf at this;rw [Array.mem_filter] at this;exact ⟨by simpa using this.1, by simpa using this.2⟩
  obtain ⟨a, ha, hak, hav⟩ := dec x hx2.1
  have hnb : x.born ∉ des.map (·.born) := by
   rw [<- h3];intro hm;have : seen.contains x.born = true := by simpa using hm
   rw [hx2.2] at this;cases this
  have hw1h : w1.heap = w.heap := by rcases hw1 with rfl | rfl <;> rfl
  have hitl : it < w.heap.size := (Array.getElem?_eq_some_iff.1 hoi).1;have hseen2 : (seen.push x.born).toList = (des ++ [x]).map (·.born) := by rw [Array.toList_push, List.map_append, h3]; rfl
  have hnd2 : (seen.push x.born).toList.Nodup := by
   rw [Array.toList_push];refine List.nodup_append.2 ⟨h5, List.pairwise_singleton _ _, fun p hp q hq e => ?_⟩;rw [List.mem_singleton] at hq;rw [h3] at hp;exact hnb (by rw [<- hq, <- e]; exact hp)
  have hmem2 : ∀ y ∈ des ++ [x], y ∈ es.toList := fun y hy => by
   rcases List.mem_append.1 hy with h9 | h9
   ·exact h4 y h9
   ·rw [List.mem_singleton.1 h9]; exact hx2.1
  refine .inr ⟨a, x.val, .mapIter (some g) since (seen.push x.born) clock, _, by rw [<- hak]; exact hr, ?_, ?_, ha, hav, ?_, ?_, ?_⟩
  ·refine ⟨by rcases hw1 with rfl | rfl <;> rfl, by rcases hw1 with rfl | rfl <;> rfl, by rcases hw1 with rfl | rfl <;> rfl, by simp [ChangeMaps.setBlock, hw1h], fun i hi hne => ?_⟩;have : it ≠ i := fun e => hne (by rw [e]);simp [ChangeMaps.setBlock, hw1h, Array.getElem?_setIfInBounds, this]
  ·simp [ChangeMaps.setBlock, hw1h, hitl]
  ·intro hm;obtain ⟨p, hp, hpa⟩ := List.mem_map.1 hm;have : (enc p.1, p.2) ∈ des.map (fun x => (x.key, x.val)) := by rw [h6]; exact List.mem_map.2 ⟨p, hp, rfl⟩
   obtain ⟨y, hy, hye⟩ := List.mem_map.1 this;have hyk : y.key = x.key := by have := congrArg Prod.fst hye; rw [hak, <- hpa]; exact this
   obtain ⟨i, hi⟩ := List.getElem?_of_mem hx2.1;obtain ⟨j, hj⟩ := List.getElem?_of_mem (h4 y hy);have hi' : i < (es.toList.map (·.key)).length := by rw [List.length_map]; exact (List.getElem?_eq_some_iff.1 hi).1
   have e9 : i = j := (List.getElem?_inj hi' hnd3).1 (by rw [List.getElem?_map, List.getElem?_map, hi, hj]; simp [hyk]);subst e9;rw [hi] at hj;cases hj;exact hnb (List.mem_map.2 ⟨x, hy, rfl⟩)
  ·refine ⟨es, clock, since, seen.push x.born, clock, des ++ [x], rfl, rfl, hm0, hn, hlt, h2, h2, hseen2, hmem2, hnd2, ?_, ?_, .inr rfl⟩
   ·rw [List.map_append, List.map_append, h6];simp [hak]
   ·intro p hp;rcases List.mem_append.1 hp with h9 | h9
    ·exact h7 p h9
    ·rw [List.mem_singleton.1 h9]; exact ⟨ha, hav⟩
  ·have := Kg3 (F := es.toList.map (·.born)) hnd2 fun q hq => by
    rw [hseen2] at hq;obtain ⟨y, hy, hyb⟩ := List.mem_map.1 hq;exact List.mem_map.2 ⟨y, hmem2 y hy, hyb⟩
   have e1 : (seen.push x.born).toList.length = des.length + 1 := by rw [hseen2]; simp
   have e2 : (es.toList.map (·.born)).length = n := by rw [List.length_map, Array.length_toList, hn]
   omega
end
section
variable {P : Program} {N : Fr} {Q : Exit -> Act -> World -> Prop} {E : Env} {w0 : Base} {L : List Pc} {ops : Array Oper} {l : List Oper} {o : Oper} {κ : Type} {enc : κ -> Value} {Ok : κ -> Prop} {t k e : TypeId} {f : κ -> Option Value}
theorem KlK (w : World) (g : Nat) (ob : Obj) : w.grownBy (w.putObj g ob) (some g) := ⟨rfl, rfl, rfl, by simp [World.putObj], fun i hi hne => by
 have : g ≠ i := fun e => hne (by rw [e]);simp [World.putObj, Array.getElem?_setIfInBounds, this]⟩
theorem KjT {w : World} {g : Nat} {o ob : Obj} (h : w.heap[g]? = some o) : (w.putObj g ob).heap[g]? = some ob := by
 have := (Array.getElem?_eq_some_iff.1 h).1;simp [World.putObj, this]
theorem TL.mapsetR {x y z : Operand} {g i : Nat} {ob : Obj} {a : κ} {v : Value} [DecidableEq κ] (hg : o.guard = none) (hd : o.dst = none) (ho : o.op = .mapUpdate t x y z) (hx : ev E x = some (.map (some g))) (hy : ev E y = some (enc a)) (hz : ev E z = some v)
  (K : MKey P k enc Ok) (ht : P.underlying t = some (.map k e)) (hk : L[i]? = some (.oth g ob)) (hnew : KcD w0 g) (hm : Kad enc Ok ob f) (ha : Ok a)
  (h : ∀ ob', Kad enc Ok ob' (fun x => if x = a then some v else f x) -> TL P N ops Q l E (Pm w0 (L.set i (.oth g ob')))) : TL P N ops Q (o :: l) E (Pm w0 L) := fun ac w hac hw =>
 wpList_plain hg fun K' hK => by
  obtain ⟨ob', w', hrun, he, hm', _⟩ := hm.put K ht (hw.at_ hk).1 ha v;subst he
  have hex : (execOp ac.eval o).run P w = .ok .skip (w.putObj g ob') := by
   unfold execOp; rw [ho];simp only [hac.eval hx, hac.eval hy, hac.eval hz, Sem.run_bind, hrun, Result.andThen_ok, Sem.run_pure]
  unfold Oper.wp;rw [hex];show K' (ac.put o.dst undef) _;rw [hd];exact hK _ _ (h ob' hm' _ _ (hac.put0 _) (hw.turnO hk hnew (KlK w g ob') (KjT (hw.at_ hk).1)))
end
end Go.Proofs.YtcicmplfmcloiaaGreat
