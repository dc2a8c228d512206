/-
  Texts of the proof, joined: Base, Sym, SymMem, SymPc, SymOps, SymTx, SymBin, SymHeld, SymZeros, SymStr, SymRow, SymRange, SymCod, SymChg, SymPair, SymTop, SymCall, SortLaw, SymEl, SymMap, SymSrt, SymClr, SymFn, SymSeg, SymMax, SymFlat, SymAgg, NtLaw, NtLaw3, NtDivLaw, NtLaw4, NtLaw5, Bits, NtBits, NtLaw6, SymMapV, NtLaw7, SymNil, SymNew, SymAp2, NtLaw8.
-/
import Derived.WalkKit
import Derived.ProofKit
import Derived.OpenShut
import Derived.ShutString
import Derived.ChangeOld
import Derived.Below
import Derived.Laws.OwnMore
import Derived.Deep.AppendLies
import Derived.Deep.Draws
import Derived.Laws.Rows
import Derived.Maps.AppendAt
import Derived.RegionTactic
import Derived.OwnWalk
import Derived.Deep.QuietTactic
import Derived.BigQuiet
import Derived.Lib.Hide
import Derived.IntWalk
import Derived.Outline
import Derived.WalkSpells
import Derived.Deep.RegionWith
import Derived.Deep.RegionHeld3
import Derived.WalkLawsBesides
import Derived.Deep.Quiet
import Derived.StillTail
import Derived.Laws.CopyRow
import Derived.Deep.LoopGhost
import Derived.Laws.CopyOwn
import Derived.RangeFuncOwn
import Derived.OrdersHeld
import Derived.Laws.BytesArg
import Derived.Laws.Strings2
import Derived.Laws.IdiomStrings
import Derived.RangeFuncLeaves
import Derived.RangeFuncKeeps
import Derived.RangeFuncBound
import Derived.RangeFuncNested
import Derived.RangeFuncCalls
import Derived.Laws.Externs
import Derived.Laws.BytesString
import Derived.Maps.Own
import Derived.Maps.OwnSet
import Derived.Maps.Views
import Derived.BigFrame
import Derived.Laws.Small
import Derived.Laws.BitsAllLaws
import Derived.Laws.BitsLemmas
import Derived.Room.AppendUpon
set_option linter.unusedVariables false
set_option linter.unusedSimpArgs false
namespace Go.Proofs.YtcicmplfmcloiaaGreat
open Go.RowKit
theorem KiB (a : Addr) (n : Nat) : (a.add n).block = a.block := by unfold Addr.add; split <;> rfl
theorem Kst (a : Addr) (i j : Nat) : (a.add i).add j = a.add (i + j) := by
  unfold Addr.add;by_cases hi : i = 0 <;> by_cases hj : j = 0 <;> simp [hi, hj, Nat.add_assoc]
def Kd (w : World) (B size : Nat) (A : Option Addr) (n : Nat) (xs : List Value) : Prop :=
  xs.length = n * size /\ (0 < n -> ∃ ad, A = some ad /\ ad.block < B /\ ∀ j u, xs[j]? = some u -> w.cell? (ad.add j) = some u)
section
variable {w w' : World} {B B' size n : Nat} {A : Option Addr} {xs : List Value}
theorem Kd.none_ : Kd w B size A 0 [] := ⟨by simp, fun h => absurd h (by omega)⟩
theorem Kd.at_ {k : Nat} (h : Kd w B 1 A n xs) (hk : k < n) : ∃ ad u, A = some ad /\ ad.block < B /\ xs[k]? = some u /\ w.cell? (ad.add k) = some u := by
  obtain ⟨ad, e, hb, hc⟩ := h.2 (by omega);have hl : k < xs.length := by have := h.1; omega
  exact ⟨ad, xs[k], e, hb, List.getElem?_eq_getElem hl, hc k _ (List.getElem?_eq_getElem hl)⟩
theorem Kd.keep (h : Kd w B size A n xs) (hk : ∀ p : Addr, p.block < B -> w'.cell? p = w.cell? p) : Kd w' B size A n xs :=
  ⟨h.1, fun hn => by
    obtain ⟨ad, e, hb, hc⟩ := h.2 hn;exact ⟨ad, e, hb, fun j u hu => (hk _ (by rw [KiB]; exact hb)).trans (hc j u hu)⟩⟩
theorem Kd.more (h : Kd w B size A n xs) (hB : B <= B') : Kd w B' size A n xs :=
  ⟨h.1, fun hn => by
    obtain ⟨ad, e, hb, hc⟩ := h.2 hn;exact ⟨ad, e, by omega, hc⟩⟩
theorem Kd.below (h : Kd w B size A n xs) (hb : Below B w w') : Kd w' B size A n xs := h.keep fun _ hp => hb.cell hp
theorem Kd.drew (h : Kd w B size A n xs) : Kd w.drew B size A n xs := h
theorem Kd.drewN (h : Kd w B size A n xs) (k : Nat) : Kd (w.drewN k) B size A n xs := h
theorem Kd.alloc (h : Kd w B size A n xs) (hB : B <= w.heap.size) (o : Obj) : Kd (w.alloc o) B size A n xs := h.keep fun p hp => World.cell?_alloc_lt w o p (by omega)
theorem Kd.setCell (h : Kd w B size A n xs) {p : Addr} (hB : B <= p.block) (u : Value) : Kd (w.setCell p u) B size A n xs :=
  h.keep fun q hq => World.cell?_setCell_other w p q u (fun e => by subst e; omega)
theorem Kd.grown (h : Kd w B size A n xs) {row : Option Nat} (hg : w.grownBy w' row) (hB : B <= w.heap.size) (hr : ∀ g, row = some g -> B <= g) : Kd w' B size A n xs :=
  h.keep fun p hp => World.cell?_of_block (hg.block p.block (by omega) (fun e => by have := hr _ e.symm; omega))
theorem Kd.cut (h : Kd w B size A n xs) {k cap : Nat} (hk : k <= n) (hc : n <= cap) :
    Kd w B size (if cap = k then A else A.map (·.add (k * size))) (n - k) (xs.drop (k * size)) := by
  refine ⟨by rw [List.length_drop, h.1, Nat.sub_mul], fun hn => ?_⟩;obtain ⟨ad, rfl, hb, hcell⟩ := h.2 (by omega);rw [if_neg (by omega)];refine ⟨ad.add (k * size), rfl, by rw [KiB]; exact hb, fun j u hu => ?_⟩;rw [Kst];exact hcell _ u (by rw [<- hu, List.getElem?_drop])
theorem Kd.of_own {base : Nat} {e : TypeId} {c : Nat} (h : w.ownsRow base e size (.slice A n c) n xs) : Kd w w.heap.size size A n xs := by
  refine ⟨h.1, fun hn => ?_⟩;obtain ⟨g, cap, hv, _, hlt⟩ := h.form hn;have hA : A = some ⟨g, 0, none⟩ := by injection hv
  subst hA;exact ⟨_, rfl, hlt, h.cells (g := g) rfl⟩
end
def Blk (w : World) (g : Nat) (t : TypeId) (cs : Array Value) : Prop := w.heap[g]? = some (.cells cs t (0, 0))
section
variable {w w' : World} {g : Nat} {t : TypeId} {cs : Array Value}
theorem Blk.lt (h : Blk w g t cs) : g < w.heap.size := by
  rcases Nat.lt_or_ge g w.heap.size with hlt | hge
  · exact hlt
  · unfold Blk at h; rw [Array.getElem?_eq_none hge] at h; cases h
theorem Blk.cell (h : Blk w g t cs) (i : Nat) : w.cell? ⟨g, i, none⟩ = cs[i]? := cell_of_row w g i cs t (0, 0) h
theorem Blk.frozen (h : Blk w g t cs) (i : Nat) : w.frozen? ⟨g, i, none⟩ = false := by
  unfold Blk at h;simp [World.frozen?, h]
theorem Blk.new (w : World) (t : TypeId) (cs : Array Value) : Blk (w.alloc (.cells cs t)) w.heap.size t cs := heap_alloc_new w _
theorem Blk.drew (h : Blk w g t cs) : Blk w.drew g t cs := h
theorem Blk.drewN (h : Blk w g t cs) (n : Nat) : Blk (w.drewN n) g t cs := h
theorem Blk.alloc (h : Blk w g t cs) (o : Obj) : Blk (w.alloc o) g t cs := (Below.heap_alloc w o g h.lt).trans h
theorem Blk.set_ (h : Blk w g t cs) (i : Nat) (u : Value) : Blk (w.setCell ⟨g, i, none⟩ u) g t (cs.setIfInBounds i u) := by
  unfold Blk at h ⊢;simp [World.setCell, Array.getElem?_modify, h]
theorem Blk.below {B : Nat} (h : Blk w g t cs) (hb : Below B w w') (hg : g < B) : Blk w' g t cs := (hb.block g hg).trans h
theorem Blk.grown {row : Option Nat} (h : Blk w g t cs) (hb : w.grownBy w' row) (hg : some g ≠ row) : Blk w' g t cs := (hb.block g h.lt hg).trans h
end
section
variable {P : Program} (w : World)
theorem KtZ (base : Nat) (t ty e : TypeId) (i : TypeInfo) (size : Nat) (ht : P.underlying t = some (.slice e)) (hi : P.info? e = some i)
    (v : Value) (n : Nat) (xs : List Value) (hown : w.ownsRow base e size v n xs) (c : Nat) : (Builtin.append_ #[t, t] ty #[v, .slice none 0 c]).run P w = .ok v w := by
  rcases hown.2 with ⟨rfl, rfl⟩ | ⟨g, cap, cur, rfl, _, _, hnc, _⟩
  · simp [Builtin.append_, run_underlying ht, sizeOf, typeInfo, hi, Builtin.lenOf, Builtin.firstCells]
  · simp [Builtin.append_, run_underlying ht, sizeOf, typeInfo, hi, Builtin.lenOf, Builtin.firstCells, hnc, storeCells]
theorem KjD (base : Nat) (t ty e : TypeId) (i : TypeInfo) (z : Value) (size bytes : Nat) (ht : P.underlying t = some (.slice e)) (hi : P.info? e = some i) (hz : i.zero = some z)
    (hsize : i.size = size) (hby : i.bytes = bytes) (hzs : z.cells.size = size) (hsz : 0 < size)
    (v : Value) (n : Nat) (xs : List Value) (hown : w.ownsRow base e size v n xs)
    (B : Nat) (A : Option Addr) (m c : Nat) (news : List Value) (hr : Kd w B size A m news) (h1 : ∀ u ∈ news, u.oneCell' = true)
    (h63 : n + m <= maxLen) (hbytes : (n + m) * bytes <= 140737488355328) (hbase : base <= w.heap.size) :
    ∃ v' w', (Builtin.append_ #[t, t] ty #[v, .slice A m c]).run P w = .ok v' w' /\ w'.ownsRow base e size v' (n + m) (xs ++ news) /\ w.grownBy w' v.ownBlock /\
      (v'.ownBlock = v.ownBlock \/ v'.ownBlock = some w.heap.size) := by
  rcases A with _ | ad
  · have hm : m = 0 := by
      rcases Nat.eq_zero_or_pos m with h0 | h0
      · exact h0
      · obtain ⟨ad, h, _⟩ := hr.2 h0;cases h
    subst hm;have hn : news = [] := List.eq_nil_of_length_eq_zero (by simpa using hr.1);subst hn;exact ⟨v, w, KtZ w base t ty e i size ht hi v n xs hown c, by simpa using hown, World.grownBy.refl w _, .inl rfl⟩
  · have hcells : ∀ j u, news[j]? = some u -> w.cell? (ad.add j) = some u := by
      intro j u hu;rcases Nat.eq_zero_or_pos m with h0 | h0
      · subst h0;have hn : news = [] := List.eq_nil_of_length_eq_zero (by simpa using hr.1);subst hn;simp at hu
      · obtain ⟨ad', h, _, hc⟩ := hr.2 h0
        injection h with h
        subst h;exact hc j u hu
    obtain ⟨v', w', hrun, h2, h3, _, h5⟩ := run_append_own_at (P := P) w base t ty e i z size bytes ht hi hz hsize hby hzs hsz v n xs hown ad m c news hr.1 hcells h1 h63 hbytes hbase;exact ⟨v', w', hrun, h2, h3, h5⟩
end
structure Elem (P : Program) (t e : TypeId) (size bytes : Nat) : Prop where
  und : P.underlying t = some (.slice e)
  info : ∃ i z, P.info? e = some i /\ i.zero = some z /\ i.size = size /\ i.bytes = bytes /\ z.cells.size = size
  pos : 0 < size
  big : 0 < bytes
theorem Elem.mk' {P : Program} {t e : TypeId} {size bytes : Nat} {z : Value} (hu : P.underlying t = some (.slice e)) (h : (P.info? e).map (fun i => (i.zero, i.size, i.bytes)) = some (some z, size, bytes)) (hz : z.cells.size = size) (h0 : 0 < size) (h1 : 0 < bytes) : Elem P t e size bytes := by
  obtain ⟨i, hi, a, b, c⟩ := info_parts h;exact ⟨hu, ⟨i, z, hi, a, b, c, hz⟩, h0, h1⟩
theorem Kiq {w : World} {base : Nat} {e : TypeId} {size n : Nat} {v : Value} {xs : List Value} (h : w.ownsRow base e size v n xs) : ∃ A c, v = .slice A n c /\ n <= c /\ c <= maxLen := by
  rcases h.2 with ⟨rfl, rfl⟩ | ⟨g, cap, cur, rfl, _, _, h1, h2, _⟩
  · exact ⟨none, 0, rfl, Nat.le_refl _, Nat.zero_le _⟩
  · exact ⟨_, cap, rfl, h1, h2⟩
theorem KjU {w : World} {base base' : Nat} {e : TypeId} {size n : Nat} {v : Value} {xs : List Value} (h : w.ownsRow base e size v n xs) (hb : base' <= base) : w.ownsRow base' e size v n xs := by
  refine ⟨h.1, ?_⟩;rcases h.2 with h | ⟨g, cap, cur, a, b, r⟩
  · exact .inl h
  · exact .inr ⟨g, cap, cur, a, Nat.le_trans hb b, r⟩
def bv (l : List Int) : List Value := l.map (Value.int .u8)
def Bs (l : List Int) : Prop := ∀ x ∈ l, 0 <= x /\ x <= 255
theorem Bs.nil : Bs [] := by intro x hx; cases hx
theorem Bs.app {a b : List Int} (ha : Bs a) (hb : Bs b) : Bs (a ++ b) := by
  intro x hx;rcases List.mem_append.1 hx with h | h
  · exact ha x h
  · exact hb x h
theorem Bs.take {l : List Int} (h : Bs l) (n : Nat) : Bs (l.take n) := fun x hx => h x (List.mem_of_mem_take hx)
theorem Bs.drop {l : List Int} (h : Bs l) (n : Nat) : Bs (l.drop n) := fun x hx => h x (List.mem_of_mem_drop hx)
theorem KsX (a : List Int) : (bv a).length = a.length := by simp [bv]
def Byt (w : World) (B : Nat) (A : Option Addr) (n : Nat) (l : List Int) : Prop := Kd w B 1 A n (bv l) /\ Bs l
section
variable {w w' : World} {B B' n : Nat} {A : Option Addr} {l : List Int}
theorem Byt.len (h : Byt w B A n l) : l.length = n := by have := h.1.1; rw [KsX] at this; omega
theorem Byt.at_ {k : Nat} (h : Byt w B A n l) (hk : k < n) : ∃ ad x, A = some ad /\ ad.block < B /\ l[k]? = some x /\ 0 <= x /\ x <= 255 /\ w.cell? (ad.add k) = some (.int .u8 x) := by
  obtain ⟨ad, u, hA, hb, hx, hc⟩ := h.1.at_ hk;have hl : k < l.length := by have := h.len; omega
  refine ⟨ad, l[k], hA, hb, List.getElem?_eq_getElem hl, (h.2 _ (List.getElem_mem hl)).1, (h.2 _ (List.getElem_mem hl)).2, ?_⟩;rw [hc];simp only [bv, List.getElem?_map, List.getElem?_eq_getElem hl, Option.map_some] at hx;rw [Option.some.inj hx]
theorem Byt.at' {k : Nat} (h : Byt w B A n l) (hk : k < n) : ∃ b o x, A = some ⟨b, o, none⟩ /\ b < B /\ l[k]? = some x /\ 0 <= x /\ x <= 255 /\ w.cell? ⟨b, o + k, none⟩ = some (.int .u8 x) := by
  obtain ⟨ad, x, hA, hb, hx, h0, h1, hc⟩ := h.at_ hk;obtain ⟨ad', x', hA', _, _, _, _, hc'⟩ := h.at_ (k := 0) (by omega);rw [hA] at hA'
  injection hA' with e
  subst e;have hs : ad.spot = none := by simpa [Addr.add] using World.cell?_spot hc'
  obtain ⟨b, o, sp⟩ := ad;simp only at hs hb;subst hs;have e : (⟨b, o, none⟩ : Addr).add k = ⟨b, o + k, none⟩ := by unfold Addr.add; split <;> simp_all
  exact ⟨b, o, x, hA, hb, hx, h0, h1, by rw [<- e]; exact hc⟩
theorem Byt.none_ (w : World) (B : Nat) : Byt w B none 0 [] := ⟨Kd.none_, Bs.nil⟩
theorem Byt.keep (h : Byt w B A n l) (hk : ∀ p : Addr, p.block < B -> w'.cell? p = w.cell? p) : Byt w' B A n l := ⟨h.1.keep hk, h.2⟩
theorem Byt.more (h : Byt w B A n l) (hB : B <= B') : Byt w B' A n l := ⟨h.1.more hB, h.2⟩
theorem Byt.below (h : Byt w B A n l) (hb : Below B w w') : Byt w' B A n l := ⟨h.1.below hb, h.2⟩
theorem Byt.alloc (h : Byt w B A n l) (hB : B <= w.heap.size) (o : Obj) : Byt (w.alloc o) B A n l := ⟨h.1.alloc hB o, h.2⟩
theorem Byt.drew (h : Byt w B A n l) : Byt w.drew B A n l := ⟨h.1.drew, h.2⟩
theorem Byt.drewN (h : Byt w B A n l) (k : Nat) : Byt (w.drewN k) B A n l := ⟨h.1.drewN k, h.2⟩
theorem Byt.cut (h : Byt w B A n l) {k cap : Nat} (hk : k <= n) (hc : n <= cap) : Byt w B (if cap = k then A else A.map (·.add k)) (n - k) (l.drop k) := by
  have := h.1.cut (cap := cap) hk hc;rw [Nat.mul_one] at this;refine ⟨?_, h.2.drop k⟩
  simpa [bv, List.map_drop] using this
theorem Byt.head (h : Byt w B A n l) {k : Nat} (hk : k <= n) : Byt w B A k (l.take k) := by
  have hl := h.len;refine ⟨⟨by simp [bv]; omega, fun hn => ?_⟩, h.2.take k⟩;obtain ⟨ad, hA, hb, hc⟩ := h.1.2 (by omega);refine ⟨ad, hA, hb, fun j u hu => hc j u ?_⟩;simp only [bv, List.getElem?_map, List.map_take, List.getElem?_take] at hu ⊢;split at hu
  · exact hu
  · cases hu
end
abbrev Env := List (Nat × Value)
def look : Env -> Nat -> Option Value
 | [], _ => none
 | (k, v) :: r, t => bif Nat.beq k t then some v else look r t
def ev (E : Env) : Operand -> Option Value
 | .tmp t => look E t
 | .const v => some v
 | .global g => some (.pointer (some ⟨g, 0, none⟩))
 | .func f => some (.func (.func f) #[] #[])
structure Fr where
 n : Nat
 ds : List Deferred
instance (k : Nat) : OfNat Fr k := ⟨⟨k, []⟩⟩
structure EnvOk (N : Fr) (E : Env) (a : Act) : Prop where
 defers : a.defers = N.ds
 size : a.tmps.size = N.n
 slot : ∀ t v, look E t = some v -> a.tmps[t]? = some v
theorem EnvOk.eval {N : Fr} {E : Env} {a : Act} (h : EnvOk N E a) {x : Operand} {v : Value} (hx : ev E x = some v) : a.eval x = v := by
 cases x with
 | tmp t =>
  have := h.slot t v hx;simp [Act.eval, this]
 | const u => simpa [ev, Act.eval] using hx
 | global g => simpa [ev, Act.eval] using hx
 | func f => simpa [ev, Act.eval] using hx
theorem EnvOk.put {N : Fr} {E : Env} {a : Act} (h : EnvOk N E a) (d : Nat) (v : Value) (hd : d < N.n) : EnvOk N ((d, v) :: E) (a.put (some d) v) := by
 refine ⟨h.defers, by simp [Act.put, h.size], fun t u hu => ?_⟩;simp only [look] at hu;by_cases e : d = t
 ·subst e;have : Nat.beq d d = true := by simp
  rw [this] at hu;simp only [cond_true, Option.some.injEq] at hu;subst hu;simp [Act.put, h.size, hd]
 ·have : Nat.beq d t = false := by
   cases hb : Nat.beq d t with
   | false => rfl
   | true => exact absurd (Nat.eq_of_beq_eq_true hb) e
  rw [this] at hu;simp only [cond_false] at hu;have := h.slot t u hu;simp [Act.put, Array.getElem?_setIfInBounds, e, this]
theorem EnvOk.put0 {N : Fr} {E : Env} {a : Act} (h : EnvOk N E a) (v : Value) : EnvOk N E (a.put none v) := h
theorem EnvOk.weak {N : Fr} {E E' : Env} {a : Act} (h : EnvOk N E a) (hE : ∀ t v, look E' t = some v -> look E t = some v) : EnvOk N E' a := ⟨h.defers, h.size, fun t v hv => h.slot t v (hE t v hv)⟩
section
variable (P : Program) (N : Fr)
def TC (Q : Exit -> Act -> World -> Prop) (c : Code) (E : Env) (I : World -> Prop) : Prop := ∀ a w, EnvOk N E a -> I w -> c.wp P Q a w
def TL (ops : Array Oper) (Q : Exit -> Act -> World -> Prop) (l : List Oper) (E : Env) (I : World -> Prop) : Prop := ∀ a w, EnvOk N E a -> I w -> wpList P ops Q l a w
def TQ (ops : Array Oper) (R : Act -> Prop) (l : List Oper) (E : Env) (I : World -> Prop) : Prop := ∀ a, EnvOk N E a -> wpQuiet P ops I R l a
def Kv (o : Oper) (E : Env) (I : World -> Prop) (v : Value) : Prop := ∀ a w, EnvOk N E a -> I w -> (execOp a.eval o).run P w = .ok (.value v) w
end
section
variable {P : Program} {N : Fr} {Q : Exit -> Act -> World -> Prop} {E : Env} {I : World -> Prop}
theorem TC.seq {x y : Code} {J : Act -> World -> Prop} (h : TC P N (Exit.then J Q) x E I) (hJ : ∀ a w, J a w -> y.wp P Q a w) : TC P N Q (.seq x y) E I :=
 fun a w ha hw => wp_seq (Code.wp_mono (fun e a' w' q => by cases e <;> first | exact hJ _ _ q | exact q) (h a w ha hw))
theorem TC.skip {J : Act -> World -> Prop} (h : ∀ a w, EnvOk N E a -> I w -> J a w) : TC P N (Exit.then J Q) .skip E I := fun a w ha hw => wp_skip (h a w ha hw)
theorem TC.region {id : Nat} {l : List Oper} (h : TL P N l.toArray Q l E I) : TC P N Q (.region id l.toArray false) E I := fun a w ha hw => wp_region_lit (h a w ha hw)
theorem TC.quiet {id : Nat} {l : List Oper} {R : Act -> Prop} (hm : P.follows .mixedOrders = true) (hB : Region.lexB .any l.toArray = true) (hI : ∀ w, I w -> I { w with drawn := w.drawn + 1 })
  (h : TQ P N l.toArray R l E I) (hR : ∀ a w, R a -> I w -> Q .normal a w) : TC P N Q (.region id l.toArray true) E I := fun a w ha hw =>
 wp_region_quiet (C := I) hm hB (hI w hw) (by
  have := h a ha
  have hmono : ∀ (l' : List Oper) (a : Act), wpQuiet P l.toArray I R l' a -> wpQuiet P l.toArray I (fun a' => ∀ w', I w' -> Q .normal a' w') l' a := by
   intro l'
   induction l' with
   | nil => exact fun a hq w' hw' => hR a w' hq hw'
   | cons o r ih =>
    intro a hq;simp only [wpQuiet] at hq ⊢;split
    ·rename_i hwt; rw [if_pos hwt] at hq; exact Oper.quiet_mono (fun a' => ih a') hq
    ·rename_i hwt; rw [if_neg hwt] at hq; exact ih _ hq
  simpa using hmono l a this)
theorem TC.split {c : Operand} {x y : Code} {t : Bool} (hc : ev E c = some (.bool t)) (ht : t = true -> TC P N Q x E I) (hf : t = false -> TC P N Q y E I) : TC P N Q (.cond c x y) E I := fun a w ha hw =>
 wp_cond_split (ha.eval hc) (fun e => ht e a w ha hw) (fun e => hf e a w ha hw)
theorem TC.block {id : Nat} {c : Code} (h : TC P N (Exit.inBlock id Q) c E I) : TC P N Q (.block id c) E I := fun a w ha hw => wp_block (h a w ha hw)
theorem TC.exit {id : Nat} (h : ∀ a w, EnvOk N E a -> I w -> Q (.exit id) a w) : TC P N Q (.exit id) E I := fun a w ha hw => wp_exit (h a w ha hw)
theorem TC.ret (h : ∀ a w, EnvOk N E a -> I w -> Q .ret a w) : TC P N Q .ret E I := fun a w ha hw => wp_ret (h a w ha hw)
section
variable {ops : Array Oper} {l : List Oper} {o : Oper}
theorem TL.nil (h : ∀ a w, EnvOk N E a -> I w -> Q .normal a w) : TL P N ops Q [] E I := fun a w ha hw => h a w ha hw
theorem TL.val {d : Nat} {v : Value} (hg : o.guard = none) (hd : o.dst = some d) (hN : Nat.blt d N.n = true) (hv : Kv P N o E I v) (h : TL P N ops Q l ((d, v) :: E) I) : TL P N ops Q (o :: l) E I := fun a w ha hw =>
 wpList_plain hg fun K hK => by
  unfold Oper.wp;rw [hv a w ha hw];show K (a.put o.dst v) w;rw [hd];exact hK _ _ (h _ _ (ha.put d v (by simpa [Nat.blt_eq] using hN)) hw)
theorem TQ.nil {R : Act -> Prop} (h : ∀ a, EnvOk N E a -> R a) : TQ P N ops R [] E I := fun a ha => h a ha
theorem TQ.val {R : Act -> Prop} {d : Nat} {v : Value} (hg : o.guard = none) (hd : o.dst = some d) (hN : Nat.blt d N.n = true) (hv : Kv P N o E I v) (h : TQ P N ops R l ((d, v) :: E) I) : TQ P N ops R (o :: l) E I := fun a ha => by
 unfold wpQuiet;rw [if_pos (by simp [Region.wanted, hg])];refine ⟨v, fun w hw => ?_, ?_⟩
 ·unfold Oper.quietAt; rw [hv a w ha hw]; exact ⟨rfl, rfl⟩
 ·rw [hd]; exact h _ (ha.put d v (by simpa [Nat.blt_eq] using hN))
end
section
variable {o : Oper}
theorem Ky {x : Operand} {v : Value} (ho : o.op = .move x) (hx : ev E x = some v) : Kv P N o E I v := fun a w ha _ => by
 unfold execOp; rw [ho]; simp [ha.eval hx]
theorem KT {x : Operand} {v : Value} (ho : o.op = .assign x) (hx : ev E x = some v) : Kv P N o E I v := fun a w ha _ => by
 unfold execOp; rw [ho]; simp [ha.eval hx]
theorem Ke {op : BinOp} {xt yt : TypeId} {x y : Operand} {k k' : IntKind} {m n : Int} {v : Value} (ho : o.op = .binOp op xt x y yt) (hx : ev E x = some (.int k m)) (hy : ev E y = some (.int k' n))
  (hv : ∀ w : World, (binOp op xt (.int k m) (.int k' n)).run P w = .ok v w) : Kv P N o E I v := fun a w ha _ => by
 have hgd : (eqGuard op xt x y (.int k m) (.int k' n)).run P w = .ok () w := by
  cases op <;> simp [eqGuard]
 unfold execOp; rw [ho];simp only [ha.eval hx, ha.eval hy, Sem.run_bind, hgd, Result.andThen_ok, hv, Sem.run_pure]
theorem KoG {xt : TypeId} {k : IntKind} {m n : Int} (w : World) : (binOp .add xt (.int k m) (.int k n)).run P w = .ok (.int k (k.wrap (m + n))) w := by simp [binOp, go_sem]
theorem KaW {op : BinOp} {xt : TypeId} {k : IntKind} {m n : Int} (h : op = .and \/ op = .or \/ op = .xor) (w : World) : (binOp op xt (.int k m) (.int k n)).run P w = .ok (.int k (bits op k m n)) w := by
 rcases h with rfl | rfl | rfl <;> simp [binOp, go_sem]
theorem KaM {t : TypeId} {x i : Operand} {vx vi v : Value} (ho : o.op = .indexAddr t x i) (hx : ev E x = some vx) (hi : ev E i = some vi) (hv : ∀ w : World, (Instr.indexAt t vx vi).run P w = .ok v w) : Kv P N o E I v := fun a w ha _ => by
 unfold execOp; rw [ho];simp only [ha.eval hx, ha.eval hi, Sem.run_bind, hv, Result.andThen_ok, Sem.run_pure]
theorem Kx {t : TypeId} {x : Operand} {p : Addr} {v : Value} (ho : o.op = .load t x) (hx : ev E x = some (.pointer (some p))) (hag : ∀ w : World, (isAgg t).run P w = .ok false w) (hc : ∀ w, I w -> w.cell? p = some v) : Kv P N o E I v := fun a w ha hw => by
 unfold execOp; rw [ho];simp only [ha.eval hx];simp [Instr.loadAt, Instr.sureAddr, loadVar, hag, hc w hw, go_sem]
end
def evs (E : Env) : List Operand -> Option (List Value)
 | [] => some []
 | x :: r => match ev E x, evs E r with
  | some v, some vs => some (v :: vs)
  | _, _ => none
theorem EnvOk.evals {a : Act} (h : EnvOk N E a) : ∀ {xs : List Operand} {vs : List Value}, evs E xs = some vs -> xs.map a.eval = vs
 | [], vs, hx => by simp [evs] at hx; simp [hx]
 | x :: r, vs, hx => by
  simp only [evs] at hx;split at hx
  ·rename_i v vr h1 h2
   injection hx with hx
   subst hx;simp [h.eval h1, EnvOk.evals h h2]
  ·cases hx
theorem KeI {o : Oper} {a : Act} {w : World} {f : FuncId} {fn : Func} {xs : List Operand} {ts : Array TypeId} {vs : List Value} (ha : EnvOk N E a) (ho : o.op = .call { callee := .value (.func f), args := xs.toArray, argTypes := ts }) (hx : evs E xs = some vs)
  (hf : P.funcs[f]? = some fn) (hn : (fn.name == "runtime.NumGoroutine") = false) (hb : fn.body.isNone = false) : (execOp a.eval o).run P w = .ok (.enter f vs.toArray) w := by
 unfold execOp; rw [ho];have harr : xs.toArray.map a.eval = vs.toArray := by rw [List.map_toArray, ha.evals hx]
 have hfn : a.eval (.func f) = .func (.func f) #[] #[] := rfl;simp only [resolve, harr, hfn, Deferred.ofValue];have hn' : ¬ fn.name = "runtime.NumGoroutine" := by simpa using hn
 have hb' : ¬ fn.body = none := by intro e; rw [e] at hb; simp at hb
 simp [invoke, callFunc, hf, hn', hb', go_sem]
theorem TQ.call {ops : Array Oper} {l : List Oper} {o : Oper} {R : Act -> Prop} {d : Nat} {v : Value} {f : FuncId} {fn : Func} {xs : List Operand} {ts : Array TypeId} {vs : List Value} (hg : o.guard = none) (hd : o.dst = some d) (hN : Nat.blt d N.n = true)
  (ho : o.op = .call { callee := .value (.func f), args := xs.toArray, argTypes := ts }) (hx : evs E xs = some vs) (hf : P.funcs[f]? = some fn) (hn : (fn.name == "runtime.NumGoroutine") = false) (hb : fn.body.isNone = false)
  (hc : ∀ w, I w -> Calls P f vs.toArray w fun e w' => e = .returned v /\ I w') (h : TQ P N ops R l ((d, v) :: E) I) : TQ P N ops R (o :: l) E I := fun a ha => by
 unfold wpQuiet;rw [if_pos (by simp [Region.wanted, hg])];refine ⟨v, fun w hw => ?_, ?_⟩
 ·unfold Oper.quietAt; rw [KeI ha ho hx hf hn hb]; exact ⟨rfl, hc w hw⟩
 ·rw [hd]; exact h _ (ha.put d v (by simpa [Nat.blt_eq] using hN))
theorem TL.call {α : Type} {ops : Array Oper} {l : List Oper} {o : Oper} {d : Nat} {f : FuncId} {fn : Func} {xs : List Operand} {ts : Array TypeId} {vs : List Value} {r : α -> Value} {I' : α -> World -> Prop} (hg : o.guard = none) (hd : o.dst = some d) (hN : Nat.blt d N.n = true)
  (ho : o.op = .call { callee := .value (.func f), args := xs.toArray, argTypes := ts }) (hx : evs E xs = some vs) (hf : P.funcs[f]? = some fn) (hn : (fn.name == "runtime.NumGoroutine") = false) (hb : fn.body.isNone = false)
  (hc : ∀ w, I w -> Calls P f vs.toArray w fun e w' => ∃ x, e = .returned (r x) /\ I' x w') (h : ∀ x, TL P N ops Q l ((d, r x) :: E) (I' x)) : TL P N ops Q (o :: l) E I := fun a w ha hw =>
 wpList_plain hg fun K hK => by
  unfold Oper.wp;rw [KeI ha ho hx hf hn hb, Oper.upon_enter];refine (hc w hw).mono ?_;rintro e w' ⟨x, rfl, hI⟩;show K (a.put o.dst (r x)) w';rw [hd];exact hK _ _ (h x _ _ (ha.put d _ (by simpa [Nat.blt_eq] using hN)) hI)
theorem TC.seq_ {x y : Code} (h : TC P N (Exit.then (y.wp P Q) Q) x E I) : TC P N Q (.seq x y) E I := fun a w ha hw => wp_seq (h a w ha hw)
theorem Kr {xt : TypeId} {k : IntKind} {m n : Int} (w : World) : (binOp .lss xt (.int k m) (.int k n)).run P w = .ok (.bool (decide (m < n))) w := by simp [binOp, go_sem]
theorem KeB {o : Oper} {t : TypeId} {x i : Operand} {vx vi v : Value} (ho : o.op = .index t x i) (hx : ev E x = some vx) (hi : ev E i = some vi) (hv : ∀ w : World, (Instr.index t vx vi).run P w = .ok v w) : Kv P N o E I v := fun a w ha _ => by
 unfold execOp; rw [ho];simp only [ha.eval hx, ha.eval hi, Sem.run_bind, hv, Result.andThen_ok, Sem.run_pure]
theorem Kcw {t e : TypeId} {n : Nat} (ht : P.underlying t = some (.array n e)) (hs : ∀ w : World, (sizeOf e).run P w = .ok 1 w) (g off : Nat) (k : IntKind) (j : Nat) (hj : j < n) (w : World) : (Instr.indexAt t (.pointer (some ⟨g, off, none⟩)) (.int k (j : Int))).run P w = .ok (.pointer (some ⟨g, off + j, none⟩)) w := by
 have hadd : (⟨g, off, none⟩ : Addr).add j = ⟨g, off + j, none⟩ := by unfold Addr.add; split <;> simp_all
 simp [Instr.indexAt, run_underlying ht, Instr.sureAddr, asIntOf, hs, hadd, go_sem];omega
def TS (P : Program) (N : Fr) (ops : Array Oper) (R : Act -> World -> Prop) (l : List Oper) (E : Env) (I : World -> Prop) : Prop := ∀ a w, EnvOk N E a -> I w -> wpStill P ops w (fun a' => R a' w) l a
theorem TS.nil {ops : Array Oper} {R : Act -> World -> Prop} (h : ∀ a w, EnvOk N E a -> I w -> R a w) : TS P N ops R [] E I := fun a w ha hw => h a w ha hw
theorem TS.val {ops : Array Oper} {l : List Oper} {o : Oper} {R : Act -> World -> Prop} {d : Nat} {v : Value} (hg : o.guard = none) (hd : o.dst = some d) (hN : Nat.blt d N.n = true) (hv : Kv P N o E I v) (h : TS P N ops R l ((d, v) :: E) I) : TS P N ops R (o :: l) E I := fun a w ha hw => by
 unfold wpStill;rw [if_pos (by simp [Region.wanted, hg])];unfold Oper.still;rw [hv a w ha hw, Oper.stillUpon_value, hd];exact h _ _ (ha.put d v (by simpa [Nat.blt_eq] using hN)) hw
theorem TC.tail {id : Nat} {l : List Oper} (n : Nat) (hm : P.follows .mixedOrders = true) (hB : Region.lexTailB .any l.toArray n = true) (hI : ∀ w, I w -> I { w with drawn := w.drawn + 1 })
  (h : TS P N l.toArray (fun a w => wpList P l.toArray Q (l.drop n) a w) (l.take n) E I) : TC P N Q (.region id l.toArray true) E I := fun a w ha hw =>
 wp_region_still_tail n hm hB (h a _ ha (hI w hw))
theorem Kg {fn : Func} {t : Tmp} {v : Value} {R : Ending -> World -> Prop} (hr : fn.results = #[.tmp t]) (hv : look E t = some v) (hR : ∀ w, I w -> R (.returned v) w) (hD : N.ds = [] := by rfl) : ∀ a w, EnvOk N E a -> I w -> bodyPost P fn R .ret a w := fun a w ha hw =>
 ⟨ha.defers.trans hD, v, by rw [results_tmp hr]; have := ha.slot t v hv; simp [this], hR w hw⟩
theorem Kj {f : FuncId} {fn : Func} {c : Code} {vs : List Value} {R : Ending -> World -> Prop} {w : World} (hf : P.funcs[f]? = some fn) (hb : fn.body = some c) (hN : (⟨fn.ntmps, []⟩ : Fr) = N) (hn : Nat.ble vs.length N.n = true)
  (h : TC P N (bodyPost P fn R) c (vs.zipIdx.map fun x => (x.2, x.1)) I) (hw : I w) : Calls P f vs.toArray w R := by
 subst hN;refine calls_of_wp hf hb (h _ _ ⟨rfl, ?_, ?_⟩ hw)
 ·have : vs.length <= fn.ntmps := by simpa [Nat.ble_eq] using hn
  simp; omega
 ·intro t v hv
  have key : ∀ (us : List Value) (k : Nat), look ((us.zipIdx k).map fun x => (x.2, x.1)) t = some v -> k <= t /\ us[t - k]? = some v := by
   intro us
   induction us with
   | nil => intro k h; simp [look] at h
   | cons u us ih =>
    intro k h;simp only [List.zipIdx_cons, List.map_cons, look] at h;by_cases e : k = t
    ·subst e;have hb : Nat.beq k k = true := by simp
     rw [hb] at h;simp at h;subst h;simp
    ·have hb : Nat.beq k t = false := by
      cases hq : Nat.beq k t with
      | false => rfl
      | true => exact absurd (Nat.eq_of_beq_eq_true hq) e
     rw [hb] at h;obtain ⟨h1, h2⟩ := ih (k + 1) h;refine ⟨by omega, ?_⟩;rw [show t - k = (t - (k + 1)) + 1 by omega]
     simpa using h2
  obtain ⟨_, h2⟩ := key vs 0 hv;simp only [Nat.sub_zero] at h2;have hlt : t < vs.length := (List.getElem?_eq_some_iff.1 h2).1;simp [Array.getElem?_append, hlt];exact (List.getElem?_eq_some_iff.1 h2).2
def Has (E : Env) : Env -> Prop
 | [] => True
 | p :: r => look E p.1 = some p.2 /\ Has E r
theorem Ki7 : ∀ {E : Env} {t : Nat} {v : Value}, look E t = some v -> (t, v) ∈ E
 | [], t, v, h => by simp [look] at h
 | (k, u) :: r, t, v, h => by
  simp only [look] at h;by_cases e : Nat.beq k t = true
  ·rw [e] at h;simp only [cond_true, Option.some.injEq] at h;have := Nat.eq_of_beq_eq_true e;subst this h;exact List.mem_cons_self
  ·have e : Nat.beq k t = false := by cases hq : Nat.beq k t with
    | false => rfl
    | true => exact absurd hq e
   rw [e] at h;exact List.mem_cons_of_mem _ (Ki7 h)
theorem Has.mem {E : Env} : ∀ {E' : Env}, Has E E' -> ∀ p ∈ E', look E p.1 = some p.2
 | [], _, p, hp => absurd hp List.not_mem_nil
 | q :: r, h, p, hp => by
  rcases List.mem_cons.1 hp with rfl | hp
  ·exact h.1
  ·exact Has.mem h.2 p hp
theorem EnvOk.of_list {E' : Env} {a : Act} (h : EnvOk N E a) (hE : Has E E') : EnvOk N E' a := h.weak fun t v hv => hE.mem _ (Ki7 hv)
def evp (E : Env) : List (Nat × Operand) -> Option (List (Nat × Value))
 | [] => some []
 | (i, x) :: r => match ev E x, evp E r with
  | some v, some vs => some ((i, v) :: vs)
  | _, _ => none
theorem EnvOk.evalps {a : Act} (h : EnvOk N E a) : ∀ {xs : List (Nat × Operand)} {vs : List (Nat × Value)}, evp E xs = some vs -> xs.map (fun p => (p.1, a.eval p.2)) = vs
 | [], vs, hx => by simp [evp] at hx; simp [hx]
 | (i, x) :: r, vs, hx => by
  simp only [evp] at hx;split at hx
  ·rename_i v vr h1 h2
   injection hx with hx
   subst hx;simp [h.eval h1, EnvOk.evalps h h2]
  ·cases hx
theorem Kt {o : Oper} {t : TypeId} {xs : List (Nat × Operand)} {vs : List (Nat × Value)} {v : Value} (ho : o.op = .build t xs.toArray) (hx : evp E xs = some vs) (hv : ∀ w : World, (Instr.build t vs.toArray).run P w = .ok v w) : Kv P N o E I v := fun a w ha _ => by
 unfold execOp; rw [ho];have : xs.toArray.map (fun x => (x.1, a.eval x.2)) = vs.toArray := by rw [List.map_toArray, ha.evalps hx]
 simp only [this, Sem.run_bind, hv, Result.andThen_ok, Sem.run_pure]
end
abbrev Own := List (Nat × TypeId × List Value)
structure Mem (w0 : World) (L : Own) (w : World) : Prop where
  bel : Below w0.heap.size w0 w
  own : ∀ x ∈ L, Blk w x.1 x.2.1 x.2.2.toArray /\ w0.heap.size <= x.1
  apart : (L.map (·.1)).Nodup
section
variable {w0 w w' : World} {L : Own}
theorem Mem.at_ (h : Mem w0 L w) {k g : Nat} {t : TypeId} {cs : List Value} (hk : L[k]? = some (g, t, cs)) : Blk w g t cs.toArray /\ w0.heap.size <= g := h.own _ (List.mem_of_getElem? hk)
theorem Mem.cell (h : Mem w0 L w) {k g : Nat} {t : TypeId} {cs : List Value} (hk : L[k]? = some (g, t, cs)) (i : Nat) : w.cell? ⟨g, i, none⟩ = cs[i]? := by
  rw [(h.at_ hk).1.cell i]; simp
theorem Mem.drawn (h : Mem w0 L w) (n : Nat) : Mem w0 L { w with drawn := n } := ⟨⟨h.bel.os, h.bel.tape, h.bel.output, h.bel.size, h.bel.block⟩, h.own, h.apart⟩
theorem Mem.below (h : Mem w0 L w) (hb : Below w.heap.size w w') : Mem w0 L w' :=
  ⟨h.bel.trans (hb.mono h.bel.size), fun x hx => ⟨(h.own x hx).1.below hb (h.own x hx).1.lt, (h.own x hx).2⟩, h.apart⟩
theorem Mem.start (w : World) : Mem w [] w := ⟨Below.refl _ _, (fun x hx => absurd hx List.not_mem_nil), List.nodup_nil⟩
theorem Mem.new (h : Mem w0 L w) (t : TypeId) (cs : List Value) : Mem w0 ((w.heap.size, t, cs) :: L) (w.alloc (.cells cs.toArray t)) := by
  refine ⟨h.bel.alloc h.bel.size _, fun x hx => ?_, ?_⟩
  · rcases List.mem_cons.1 hx with rfl | hx
    · exact ⟨Blk.new _ _ _, h.bel.size⟩
    · exact ⟨(h.own x hx).1.alloc _, (h.own x hx).2⟩
  · simp only [List.map_cons, List.nodup_cons];refine ⟨fun hm => ?_, h.apart⟩;obtain ⟨x, hx, he⟩ := List.mem_map.1 hm;have := (h.own x hx).1.lt;omega
def Kd5 (L : Own) (k : Nat) (cs : List Value) : Own := L.modify k (fun x => (x.1, x.2.1, cs))
theorem Mem.setRow (h : Mem w0 L w) {k g : Nat} {t : TypeId} {cs : List Value} (hk : L[k]? = some (g, t, cs)) (cs' : List Value) : Mem w0 (Kd5 L k cs') (w.setRow g cs'.toArray) := by
  obtain ⟨hb, hg⟩ := h.at_ hk
  have hkeys : (Kd5 L k cs').map (·.1) = L.map (·.1) := by
    apply List.ext_getElem?;intro i;simp only [Kd5, List.getElem?_map, List.getElem?_modify];by_cases e : k = i
    · subst e; simp [hk]
    · simp [e]
  refine ⟨below_setRow h.bel hg _, fun x hx => ?_, by rw [hkeys]; exact h.apart⟩;obtain ⟨i, hi⟩ := List.getElem?_of_mem hx;simp only [Kd5, List.getElem?_modify] at hi;by_cases e : k = i
  · subst e;simp [hk] at hi;subst hi;exact ⟨setRow_heap w g _ _ _ _ hb, hg⟩
  · cases hL : L[i]? with
    | none => simp [hL] at hi
    | some y =>
      simp [hL, e] at hi;subst hi;obtain ⟨hy, hyg⟩ := h.own y (List.mem_of_getElem? hL);refine ⟨(setRow_other _ _ _ _ ?_).trans hy, hyg⟩;intro he;have hn := h.apart;have h1 : (L.map (·.1))[k]? = some g := by simp [hk]
      have h2 : (L.map (·.1))[i]? = some g := by simp [hL, he]
      exact e ((List.getElem?_inj (by have := (List.getElem?_eq_some_iff.1 h1).1; exact this) hn).1 (h1.trans h2.symm))
end
section
variable {P : Program} {N : Fr} {Q : Exit -> Act -> World -> Prop} {E : Env} {w0 : World} {L : Own} {ops : Array Oper} {l : List Oper} {o : Oper}
theorem TL.new {d : Nat} {t : TypeId} {cs : List Value} (hg : o.guard = none) (hd : o.dst = some d) (hN : Nat.blt d N.n = true)
    (hr : ∀ a w, EnvOk N E a -> (execOp a.eval o).run P w = .ok (.value (.pointer (some ⟨w.heap.size, 0, none⟩))) (w.alloc (.cells cs.toArray t)))
    (h : ∀ g, TL P N ops Q l ((d, .pointer (some ⟨g, 0, none⟩)) :: E) (Mem w0 ((g, t, cs) :: L))) : TL P N ops Q (o :: l) E (Mem w0 L) := fun a w ha hw =>
  wpList_plain hg fun K hK => by
    unfold Oper.wp;rw [hr a w ha];show K (a.put o.dst _) _;rw [hd];exact hK _ _ (h _ _ _ (ha.put d _ (by simpa [Nat.blt_eq] using hN)) (hw.new t cs))
theorem Knc {t : TypeId} {v : Value} (w : World) : (newVar t v).run P w = .ok ⟨w.heap.size, 0, none⟩ (w.alloc (.cells v.cells t)) := rfl
theorem KoF {t : TypeId} {z : Value} {cs : List Value} (ho : o.op = .alloc t) (hz : ∀ w : World, (zeroValue t).run P w = .ok z w) (hc : z.cells = cs.toArray) (a : Act) (w : World) (ha : EnvOk N E a) :
    (execOp a.eval o).run P w = .ok (.value (.pointer (some ⟨w.heap.size, 0, none⟩))) (w.alloc (.cells cs.toArray t)) := by
  unfold execOp; rw [ho];simp only [Instr.alloc, Sem.run_bind, hz, Result.andThen_ok, Knc, hc, Sem.run_pure]
theorem KrR {t : TypeId} {x : Operand} {v : Value} {cs : List Value} (ho : o.op = .box t x) (hx : ev E x = some v) (hc : v.cells = cs.toArray) (a : Act) (w : World) (ha : EnvOk N E a) :
    (execOp a.eval o).run P w = .ok (.value (.pointer (some ⟨w.heap.size, 0, none⟩))) (w.alloc (.cells cs.toArray t)) := by
  unfold execOp; rw [ho];simp only [ha.eval hx];simp only [Instr.box, Sem.run_bind, Result.andThen_ok, Knc, hc, Sem.run_pure]
theorem TL.store {t te : TypeId} {x y : Operand} {g off k : Nat} {v : Value} {cs vs : List Value} (hg : o.guard = none) (hd : o.dst = none) (ho : o.op = .store t x y) (hx : ev E x = some (.pointer (some ⟨g, off, none⟩))) (hy : ev E y = some v)
    (hk : L[k]? = some (g, te, cs)) (hv : v.cells = vs.toArray) (hs : ∀ w : World, (sizeOf t).run P w = .ok vs.length w) (h1 : ∀ u ∈ vs, u.oneCell' = true) (hl : off + vs.length <= cs.length) {L' : Own} (hL : Kd5 L k (cs.take off ++ vs ++ cs.drop (off + vs.length)) = L')
    (h : TL P N ops Q l E (Mem w0 L')) : TL P N ops Q (o :: l) E (Mem w0 L) := fun a w ha hw =>
  wpList_plain hg fun K hK => by
    have hrun : (execOp a.eval o).run P w = .ok .skip (w.setRow g (cs.take off ++ vs ++ cs.drop (off + vs.length)).toArray) := by
      unfold execOp; rw [ho];simp only [ha.eval hx, ha.eval hy];have hst := run_storeCells_at (P := P) g off te vs 0 cs.toArray w (hw.at_ hk).1 (by simpa using hl) h1;simp only [Nat.add_zero] at hst
      have hsv : (storeVar t ⟨g, off, none⟩ v).run P w = .ok () (w.setRow g (cs.take off ++ vs ++ cs.drop (off + vs.length)).toArray) := by
        unfold storeVar;simp only [Sem.run_bind, hs, Result.andThen_ok, hv]
        simpa [Result.andThen] using hst
      simp only [Instr.storeAt, Instr.sureAddr, Sem.run_bind, Sem.run_pure, Result.andThen_ok, hsv]
    unfold Oper.wp;rw [hrun];show K (a.put o.dst undef) _;rw [hd];exact hK _ _ (h _ _ (ha.put0 _) (hL ▸ hw.setRow hk _))
theorem TC.loop {c : Code} {α : Type} {I : World -> Prop} (E' : α -> Env) (I' : α -> World -> Prop) (m : α -> Nat) (x0 : α) (h0 : ∀ a w, EnvOk N E a -> I w -> EnvOk N (E' x0) a /\ I' x0 w)
    (step : ∀ x, TC P N (Exit.then (fun a w => ∃ y, m y < m x /\ EnvOk N (E' y) a /\ I' y w) Q) c (E' x) (I' x)) : TC P N Q (.loop c) E I := fun a w ha hw =>
  wp_loop_ghost (fun n a w => ∃ x, m x = n /\ EnvOk N (E' x) a /\ I' x w) (m x0) ⟨x0, rfl, (h0 a w ha hw).1, (h0 a w ha hw).2⟩ fun n a w ⟨x, hx, h1, h2⟩ =>
    Code.wp_mono (fun e a' w' q => by
      cases e with
      | normal => obtain ⟨y, hy, hE, hI⟩ := q; exact ⟨m y, by omega, y, rfl, hE, hI⟩
      | _ => exact q) (step x a w h1 h2)
end
inductive Pc where
  | blk (g : Nat) (t : TypeId) (cs : List Value)
  | row (v : Value) (e : TypeId) (size n : Nat) (xs : List Value)
  | oth (k : Nat) (o : Obj)
  | abs (g : Nat) (p : World -> Prop)
def Pc.isAbs : Pc -> Bool
  | .abs _ _ => true
  | _ => false
def K7 (l : List Pc) : Bool := l.all fun p => !p.isAbs
def Pc.key : Pc -> Option Nat
  | .blk g _ _ => some g
  | .row v _ _ _ _ => v.ownBlock
  | .oth k _ => some k
  | .abs g _ => some g
def Pc.ok (B : Nat) (w : World) : Pc -> Prop
  | .blk g t cs => Blk w g t cs.toArray /\ B <= g
  | .row v e size n xs => w.ownsRow B e size v n xs
  | .oth k o => w.heap[k]? = some o /\ B <= k
  | .abs g p => p w /\ B <= g /\ (∃ o : Obj, w.heap[g]? = some o /\ o.isCells = true) /\ ∀ w1 w2 : World, p w1 -> (∀ k, k < B \/ k = g -> w2.heap[k]? = w1.heap[k]?) -> p w2
theorem Pc.lt {B : Nat} {w : World} {p : Pc} (h : p.ok B w) : ∀ g, p.key = some g -> B <= g /\ g < w.heap.size := by
  intro g hg
  cases p with
  | blk g' t cs =>
    simp only [Pc.key, Option.some.injEq] at hg;subst hg;exact ⟨h.2, h.1.lt⟩
  | row v e size n xs => exact World.ownsRow.lt h g hg
  | oth k o =>
    simp only [Pc.key, Option.some.injEq] at hg;subst hg;exact ⟨h.2, (Array.getElem?_eq_some_iff.1 h.1).1⟩
  | abs g' p =>
    simp only [Pc.key, Option.some.injEq] at hg;subst hg;obtain ⟨_, h2, ⟨o, ho, _⟩, _⟩ := h;exact ⟨h2, (Array.getElem?_eq_some_iff.1 ho).1⟩
theorem Pc.same {B : Nat} {w w' : World} {p : Pc} (h : p.ok B w) (hs : ∀ g, p.key = some g -> w'.heap[g]? = w.heap[g]?) (hB : ∀ k, k < B -> w'.heap[k]? = w.heap[k]?) : p.ok B w' := by
  cases p with
  | blk g t cs => exact ⟨(hs g rfl).trans h.1, h.2⟩
  | row v e size n xs =>
    refine ⟨h.1, ?_⟩;rcases h.2 with h | ⟨g, cap, cur, a, b, hg, r⟩
    · exact .inl h
    · exact .inr ⟨g, cap, cur, a, b, (hs g (by rw [a]; rfl)).trans hg, r⟩
  | oth k o => exact ⟨(hs k rfl).trans h.1, h.2⟩
  | abs g p =>
    obtain ⟨h1, h2, ⟨o, ho, hc⟩, h4⟩ := h;exact ⟨h4 _ _ h1 fun k hk => hk.elim (hB k) (fun e => by subst e; exact hs k rfl), h2, ⟨o, (hs g rfl).trans ho, hc⟩, h4⟩
def keys : List Pc -> List Nat
  | [] => []
  | p :: r => match p.key with
    | some g => g :: keys r
    | none => keys r
structure Base where
  w : World
  b : Nat
instance : Coe World Base := ⟨fun w => ⟨w, w.heap.size⟩⟩
structure Pm (w0 : Base) (L : List Pc) (w : World) : Prop where
  bel : Below w0.b w0.w w
  own : ∀ p ∈ L, p.ok w0.b w
  apart : L.Pairwise fun p q => ∀ g, p.key = some g -> q.key ≠ some g
  oth : KeepsOthers w0.w w
  low : w0.b <= w0.w.heap.size
section
variable {w0 : Base} {w w' : World} {L : List Pc}
theorem Pm.base (h : Pm w0 L w) : w0.b <= w.heap.size := Nat.le_trans h.low h.bel.size
theorem Km8 {w w' : World} (h : Below w.heap.size w w') : KeepsOthers w w' := ⟨h.size, fun k o hk _ => (h.block k (Array.getElem?_eq_some_iff.1 hk).1).trans hk⟩
theorem Pm.start (w : World) : Pm w [] w := ⟨Below.refl _ _, (fun x hx => absurd hx List.not_mem_nil), List.Pairwise.nil, KeepsOthers.refl w, Nat.le_refl _⟩
theorem Pm.drawn (h : Pm w0 L w) (n : Nat) : Pm w0 L { w with drawn := n } := ⟨⟨h.bel.os, h.bel.tape, h.bel.output, h.bel.size, h.bel.block⟩, fun p hp => Pc.same (h.own p hp) (fun _ _ => rfl) (fun _ _ => rfl), h.apart, ⟨h.oth.size, h.oth.same⟩, h.low⟩
theorem Pm.at_ (h : Pm w0 L w) {k : Nat} {p : Pc} (hk : L[k]? = some p) : p.ok w0.b w := h.own _ (List.mem_of_getElem? hk)
theorem Pm.below (h : Pm w0 L w) (hb : Below w.heap.size w w') : Pm w0 L w' :=
  ⟨h.bel.trans (hb.mono h.base), fun p hp => Pc.same (h.own p hp) (fun g hg => hb.block g (Pc.lt (h.own p hp) g hg).2) (fun k hk => hb.block k (Nat.lt_of_lt_of_le hk h.base)), h.apart, h.oth.trans (Km8 hb), h.low⟩
theorem Pm.add (h : Pm w0 L w) (hb : Below w.heap.size w w') {p : Pc} (hp : p.ok w.heap.size w') (hna : p.isAbs = false := by rfl) : Pm w0 (p :: L) w' := by
  have h' := h.below hb;refine ⟨h'.bel, fun q hq => ?_, List.Pairwise.cons (fun q hq g hg he => ?_) h.apart, h'.oth, h.low⟩
  · rcases List.mem_cons.1 hq with rfl | hq
    · cases q with
      | blk g t cs => exact ⟨hp.1, Nat.le_trans h.base hp.2⟩
      | row v e size n xs => exact KjU hp h.base
      | oth k o => exact ⟨hp.1, Nat.le_trans h.base hp.2⟩
      | abs g p => cases hna
    · exact h'.own q hq
  · have h1 := (Pc.lt hp g hg).1;have h2 := (Pc.lt (h.own q hq) g he).2;omega
theorem Pm.new (h : Pm w0 L w) (t : TypeId) (cs : List Value) : Pm w0 (.blk w.heap.size t cs :: L) (w.alloc (.cells cs.toArray t)) :=
  h.add ((Below.refl _ _).alloc (Nat.le_refl _) _) ⟨Blk.new _ _ _, Nat.le_refl _⟩
theorem Pm.trans {L' : List Pc} (h : Pm w0 L w) (h' : Pm ⟨w, w0.b⟩ L' w') : Pm w0 L' w' := ⟨h.bel.trans h'.bel, h'.own, h'.apart, h.oth.trans h'.oth, h.low⟩
theorem Pc.cells {bb : Nat} {w : World} {p : Pc} (h : p.ok bb w) (hp : ∀ k o, p = .oth k o -> False) : ∀ g, p.key = some g -> ∃ o, w.heap[g]? = some o /\ o.isCells = true := by
  intro g hg
  cases p with
  | blk g' t cs =>
    simp only [Pc.key, Option.some.injEq] at hg;subst hg;exact ⟨_, h.1, rfl⟩
  | row v e size n xs =>
    rcases h.2 with ⟨rfl, _⟩ | ⟨g', cap, cur, a, b, hg', r⟩
    · simp [Pc.key, Value.ownBlock] at hg
    · have : v.ownBlock = some g := hg;rw [a] at this;simp only [Value.ownBlock, Option.some.injEq] at this;subst this;exact ⟨_, hg', rfl⟩
  | oth k o => exact (hp k o rfl).elim
  | abs g' p =>
    simp only [Pc.key, Option.some.injEq] at hg;subst hg;exact h.2.2.1
theorem Pm.turn (h : Pm w0 L w) {k : Nat} {p p' : Pc} (hk : L[k]? = some p) (hg : w.grownBy w' p.key) (hp : p'.ok w0.b w') (hkey : ∀ g, p'.key = some g -> p.key = some g \/ w.heap.size <= g) (hc : ∀ k o, p = .oth k o -> False) : Pm w0 (L.set k p') w' := by
  have hpo := h.at_ hk;refine ⟨(h.bel).grown hg h.base fun g hg => (Pc.lt hpo g hg).1, fun q hq => ?_, ?_, h.oth.trans (KeepsOthers.of_grownBy hg fun j o hj ho => ?_), h.low⟩
  · obtain ⟨i, hi⟩ := List.getElem?_of_mem hq;rw [List.getElem?_set] at hi;by_cases e : k = i
    · subst e;have hlt := (List.getElem?_eq_some_iff.1 hk).1;simp [hlt] at hi;subst hi;exact hp
    · rw [if_neg e] at hi;refine Pc.same (h.at_ hi) (fun g hgq => hg.block g (Pc.lt (h.at_ hi) g hgq).2 fun he => ?_) (fun k' hk' => hg.block k' (Nat.lt_of_lt_of_le hk' h.base) fun he => ?_)
      rotate_left
      · have := (Pc.lt hpo k' he.symm).1;omega
      have hlt := (List.getElem?_eq_some_iff.1 hk).1;have hlt' := (List.getElem?_eq_some_iff.1 hi).1;have ek := (List.getElem?_eq_some_iff.1 hk).2;have ei := (List.getElem?_eq_some_iff.1 hi).2;rcases Nat.lt_or_gt_of_ne e with h1 | h1
      · exact List.pairwise_iff_getElem.1 h.apart k i hlt hlt' h1 g (by rw [ek]; exact he.symm) (by rw [ei]; exact hgq)
      · exact List.pairwise_iff_getElem.1 h.apart i k hlt' hlt h1 g (by rw [ei]; exact hgq) (by rw [ek]; exact he.symm)
  · refine List.pairwise_iff_getElem.2 fun i j hi hj hij g hgi hgj => ?_;have hlk := (List.getElem?_eq_some_iff.1 hk).1;have ek := (List.getElem?_eq_some_iff.1 hk).2;have hi' : i < L.length := by simpa using hi
    have hj' : j < L.length := by simpa using hj
    have hap := List.pairwise_iff_getElem.1 h.apart;rw [List.getElem_set] at hgi hgj;by_cases e1 : k = i
    · subst e1;rw [if_pos rfl] at hgi;rw [if_neg (by omega)] at hgj;rcases hkey g hgi with h1 | h1
      · exact hap k j hi' hj' hij g (by rw [ek]; exact h1) hgj
      · have := (Pc.lt (h.own _ (List.getElem_mem hj')) g hgj).2;omega
    · rw [if_neg e1] at hgi;by_cases e2 : k = j
      · subst e2;rw [if_pos rfl] at hgj;rcases hkey g hgj with h1 | h1
        · exact hap i k hi' hj' hij g hgi (by rw [ek]; exact h1)
        · have := (Pc.lt (h.own _ (List.getElem_mem hi')) g hgi).2;omega
      · rw [if_neg e2] at hgj;exact hap i j hi' hj' hij g hgi hgj
  · obtain ⟨o', h1, h2⟩ := Pc.cells hpo hc j hj;rw [ho] at h1
    injection h1 with h1
    rw [h1]; exact h2
theorem Kff {g : Nat} (cs : Array Value) (w : World) : w.grownBy (w.setRow g cs) (some g) := by
  refine ⟨rfl, rfl, rfl, ?_, fun k hk hne => ?_⟩
  · simp [World.setRow]
  · have : k ≠ g := fun e => hne (by rw [e]);simp [World.setRow, Array.getElem?_modify, this.symm]
theorem Pm.setRow (h : Pm w0 L w) {k g : Nat} {t : TypeId} {cs : List Value} (hk : L[k]? = some (.blk g t cs)) (cs' : List Value) : Pm w0 (L.set k (.blk g t cs')) (w.setRow g cs'.toArray) := by
  obtain ⟨hb, hg⟩ := h.at_ hk;exact h.turn hk (Kff _ _) ⟨setRow_heap w g _ _ _ _ hb, hg⟩ (fun g' hg' => .inl hg') (fun k o e => by cases e)
theorem Pm.cell (h : Pm w0 L w) {k g : Nat} {t : TypeId} {cs : List Value} (hk : L[k]? = some (.blk g t cs)) (i : Nat) : w.cell? ⟨g, i, none⟩ = cs[i]? := by
  rw [(h.at_ hk).1.cell i]; simp
end
section
variable {P : Program} {N : Fr} {Q : Exit -> Act -> World -> Prop} {E : Env} {w0 : Base} {L : List Pc} {ops : Array Oper} {l : List Oper} {o : Oper}
theorem TL.run {I : World -> Prop} {α : Type} {d : Nat} {r : α -> Value} {I' : α -> World -> Prop} (hg : o.guard = none) (hd : o.dst = some d) (hN : Nat.blt d N.n = true)
    (hr : ∀ a w, EnvOk N E a -> I w -> ∃ x w', (execOp a.eval o).run P w = .ok (.value (r x)) w' /\ I' x w')
    (h : ∀ x, TL P N ops Q l ((d, r x) :: E) (I' x)) : TL P N ops Q (o :: l) E I := fun a w ha hw =>
  wpList_plain hg fun K hK => by
    obtain ⟨x, w', hx, hI⟩ := hr a w ha hw;unfold Oper.wp;rw [hx];show K (a.put o.dst _) _;rw [hd];exact hK _ _ (h x _ _ (ha.put d _ (by simpa [Nat.blt_eq] using hN)) hI)
theorem TL.pnew {d : Nat} {t : TypeId} {cs : List Value} (hg : o.guard = none) (hd : o.dst = some d) (hN : Nat.blt d N.n = true)
    (hr : ∀ a w, EnvOk N E a -> (execOp a.eval o).run P w = .ok (.value (.pointer (some ⟨w.heap.size, 0, none⟩))) (w.alloc (.cells cs.toArray t)))
    (h : ∀ g, TL P N ops Q l ((d, .pointer (some ⟨g, 0, none⟩)) :: E) (Pm w0 (.blk g t cs :: L))) : TL P N ops Q (o :: l) E (Pm w0 L) :=
  TL.run (α := Nat) (r := fun g => .pointer (some ⟨g, 0, none⟩)) (I' := fun g => Pm w0 (.blk g t cs :: L)) hg hd hN (fun a w ha hw => ⟨w.heap.size, _, hr a w ha, hw.new t cs⟩) h
theorem TL.append {d k : Nat} {s x : Operand} {t e : TypeId} {size bytes n c m cc : Nat} {A0 A : Option Addr} {olds news : List Value} (hg : o.guard = none) (hd : o.dst = some d) (hN : Nat.blt d N.n = true)
    (ho : o.op = .call { callee := .builtin .append, args := #[s, x], argTypes := #[t, t] }) (hE : Elem P t e size bytes) (hs : ev E s = some (.slice A0 n c)) (hx : ev E x = some (.slice A m cc))
    (hk : L[k]? = some (.row (.slice A0 n c) e size n olds)) (hr : ∀ w, Pm w0 L w -> ∃ B, Kd w B size A m news) (h1 : ∀ u ∈ news, u.oneCell' = true) (hlim : (n + m) * bytes <= 140737488355328) (M : Nat) (hM : M = n + m)
    (h : ∀ A' c', M <= c' -> c' <= maxLen -> TL P N ops Q l ((d, .slice A' M c') :: E) (Pm w0 (L.set k (.row (.slice A' M c') e size M (olds ++ news))))) : TL P N ops Q (o :: l) E (Pm w0 L) := by
  subst hM;refine TL.run (α := { p : Option Addr × Nat // n + m <= p.2 /\ p.2 <= maxLen }) (r := fun p => .slice p.1.1 (n + m) p.1.2) (I' := fun p => Pm w0 (L.set k (.row (.slice p.1.1 (n + m) p.1.2) e size (n + m) (olds ++ news)))) hg hd hN (fun a w ha hw => ?_) (fun p => h p.1.1 p.1.2 p.2.1 p.2.2);obtain ⟨i, z, hi, hz, hsz, hby, hzs⟩ := hE.info;obtain ⟨B, hrd⟩ := hr w hw
  have hmx : n + m <= maxLen := by
    have : n + m <= (n + m) * bytes := Nat.le_mul_of_pos_right _ hE.big;unfold maxLen; omega
  obtain ⟨v', w', hrun, hown', hgr, hkey⟩ := KjD (P := P) w w0.b t o.type e i z size bytes hE.und hi hz hsz hby hzs hE.pos _ n olds (hw.at_ hk) B A m cc news hrd h1 hmx hlim hw.base;obtain ⟨A', c', rfl, hc1, hc2⟩ := Kiq hown';refine ⟨⟨(A', c'), hc1, hc2⟩, w', ?_, hw.turn hk hgr hown' (fun g hg => ?_) (fun k o e => ?_)⟩
  · unfold execOp; rw [ho];simp only [resolve, invoke, builtin, Sem.run_bind, Sem.run_pure, Result.andThen_ok, List.map_toArray, List.map_cons, List.map_nil, ha.eval hs, ha.eval hx, hrun]
  · rcases hkey with hkey | hkey
    · exact .inl (hkey.symm.trans hg)
    · right
      have : (Value.slice A' (n + m) c').ownBlock = some g := hg;rw [hkey] at this
      injection this with this
      omega
  · cases e
theorem TL.pstore {t te : TypeId} {x y : Operand} {g off k : Nat} {v : Value} {cs vs : List Value} (hg : o.guard = none) (hd : o.dst = none) (ho : o.op = .store t x y) (hx : ev E x = some (.pointer (some ⟨g, off, none⟩))) (hy : ev E y = some v)
    (hk : L[k]? = some (.blk g te cs)) (hv : v.cells = vs.toArray) (hs : ∀ w : World, (sizeOf t).run P w = .ok vs.length w) (h1 : ∀ u ∈ vs, u.oneCell' = true) (hl : off + vs.length <= cs.length) {L' : List Pc} (hL : L.set k (.blk g te (cs.take off ++ vs ++ cs.drop (off + vs.length))) = L')
    (h : TL P N ops Q l E (Pm w0 L')) : TL P N ops Q (o :: l) E (Pm w0 L) := fun a w ha hw =>
  wpList_plain hg fun K hK => by
    have hrun : (execOp a.eval o).run P w = .ok .skip (w.setRow g (cs.take off ++ vs ++ cs.drop (off + vs.length)).toArray) := by
      unfold execOp; rw [ho];simp only [ha.eval hx, ha.eval hy];have hst := run_storeCells_at (P := P) g off te vs 0 cs.toArray w (hw.at_ hk).1 (by simpa using hl) h1;simp only [Nat.add_zero] at hst
      have hsv : (storeVar t ⟨g, off, none⟩ v).run P w = .ok () (w.setRow g (cs.take off ++ vs ++ cs.drop (off + vs.length)).toArray) := by
        unfold storeVar;simp only [Sem.run_bind, hs, Result.andThen_ok, hv]
        simpa [Result.andThen] using hst
      simp only [Instr.storeAt, Instr.sureAddr, Sem.run_bind, Sem.run_pure, Result.andThen_ok, hsv]
    unfold Oper.wp;rw [hrun];show K (a.put o.dst undef) _;rw [hd];exact hK _ _ (h _ _ (ha.put0 _) (hL ▸ hw.setRow hk _))
theorem Ka7 {t te : TypeId} {x : Operand} {g i k : Nat} {v : Value} {cs : List Value} (ho : o.op = .load t x) (hx : ev E x = some (.pointer (some ⟨g, i, none⟩))) (hag : ∀ w : World, (isAgg t).run P w = .ok false w)
    (hk : L[k]? = some (.blk g te cs)) (hi : cs[i]? = some v) : Kv P N o E (Pm w0 L) v := Kx ho hx hag fun w hw => (hw.cell hk i).trans hi
theorem KqE {t te : TypeId} {x : Operand} {g i k n : Nat} {cs : List Value} (ho : o.op = .load t x) (hx : ev E x = some (.pointer (some ⟨g, i, none⟩))) (hag : ∀ w : World, (isAgg t).run P w = .ok true w) (hs : ∀ w : World, (sizeOf t).run P w = .ok n w)
    (hk : L[k]? = some (.blk g te cs)) (hi : i + n <= cs.length) : Kv P N o E (Pm w0 L) (.agg ((cs.drop i).take n).toArray) := fun a w ha hw => by
  unfold execOp; rw [ho];simp only [ha.eval hx];have hlen : ((cs.drop i).take n).length = n := by simp; omega
  have hl := run_loadCells_list (P := P) w ⟨g, i, none⟩ ((cs.drop i).take n) (fun j v hj => by
    have hadd : (⟨g, i, none⟩ : Addr).add j = ⟨g, i + j, none⟩ := by unfold Addr.add; split <;> simp_all
    rw [hadd, hw.cell hk (i + j)];simp only [List.getElem?_take, List.getElem?_drop] at hj;split at hj
    · exact hj
    · cases hj)
  rw [hlen] at hl;simp only [Instr.loadAt, Instr.sureAddr, Sem.run_bind, Sem.run_pure, Result.andThen_ok, loadVar, hag, hs, hl, if_true]
theorem Kbx {fn : Func} {p : Tmp} {t te : TypeId} {g k : Nat} {cs : List Value} {d : TypeDesc} {R : Ending -> World -> Prop} (hr : fn.results = #[.cell p t]) (hp : look E p = some (.pointer (some ⟨g, 0, none⟩))) (hk : L[k]? = some (.blk g te cs))
    (hu : P.underlying t = some d) (hd : (match d with | .struct _ | .array _ _ => true | _ => false) = true) (hi : (P.info? t).map (·.size) = some cs.length) (hR : ∀ w, Pm w0 L w -> R (.returned (.agg cs.toArray)) w) (hD : N.ds = [] := by rfl) :
    ∀ a w, EnvOk N E a -> Pm w0 L w -> bodyPost P fn R .ret a w := fun a w ha hw =>
  ⟨ha.defers.trans hD, .agg cs.toArray, results_cell_row hr a.tmps w g te cs.toArray (0, 0) d (by have := ha.slot p _ hp; simp [this]) (hw.at_ hk).1 hu hd (by simpa using hi), hR w hw⟩
theorem TL.pcall1 {d : Nat} {f : FuncId} {fn : Func} {xs : List Operand} {ts : Array TypeId} {vs : List Value} {r : Value} (hg : o.guard = none) (hd : o.dst = some d) (hN : Nat.blt d N.n = true)
    (ho : o.op = .call { callee := .value (.func f), args := xs.toArray, argTypes := ts }) (hx : evs E xs = some vs) (hf : P.funcs[f]? = some fn) (hn : (fn.name == "runtime.NumGoroutine") = false) (hb : fn.body.isNone = false)
    (hc : ∀ w, Pm w0 L w -> Calls P f vs.toArray w fun e w' => e = .returned r /\ Below w.heap.size w w') (h : TL P N ops Q l ((d, r) :: E) (Pm w0 L)) : TL P N ops Q (o :: l) E (Pm w0 L) :=
  TL.call (α := Unit) (r := fun _ => r) (I' := fun _ => Pm w0 L) hg hd hN ho hx hf hn hb (fun w hw => (hc w hw).mono fun e w' ⟨he, hb⟩ => ⟨(), he, hw.below hb⟩) (fun _ => h)
theorem Kpm {s : Operand} {t e : TypeId} {A : Option Addr} {n c : Nat} {I : World -> Prop} (ho : o.op = .call { callee := .builtin .len, args := #[s], argTypes := #[t] }) (ht : P.underlying t = some (.slice e)) (hs : ev E s = some (.slice A n c)) : Kv P N o E I (.int .i64 (n : Int)) := fun a w ha _ => by
  unfold execOp; rw [ho];simp only [resolve, invoke, builtin, Sem.run_bind, Sem.run_pure, Result.andThen_ok, List.map_toArray, List.map_cons, List.map_nil, ha.eval hs];simp [go_sem, Builtin.len_, run_underlying ht]
theorem KaG {t u : TypeId} {x : Operand} {vx v : Value} {I : World -> Prop} (ho : o.op = .convert t u x) (hx : ev E x = some vx) (hv : ∀ w : World, (convert t u vx).run P w = .ok v w) : Kv P N o E I v := fun a w ha _ => by
  unfold execOp; rw [ho];simp only [ha.eval hx, Sem.run_bind, hv, Result.andThen_ok, Sem.run_pure]
end
def TX (N : Fr) (Q : Exit -> Act -> World -> Prop) (e : Exit) (E : Env) (I : World -> Prop) : Prop := ∀ a w, EnvOk N E a -> I w -> Q e a w
section
variable {P : Program} {N : Fr} {Q : Exit -> Act -> World -> Prop} {E : Env} {I : World -> Prop} {id i : Nat} {y : Code}
theorem TX.of {e : Exit} (h : ∀ a w, EnvOk N E a -> I w -> Q e a w) : TX N Q e E I := h
theorem TL.end_ {ops : Array Oper} (h : TX N Q .normal E I) : TL P N ops Q [] E I := h
theorem TC.skip_ (h : TX N Q .normal E I) : TC P N Q .skip E I := fun a w ha hw => wp_skip (h a w ha hw)
theorem TC.exit_ (h : TX N Q (.exit id) E I) : TC P N Q (.exit id) E I := fun a w ha hw => wp_exit (h a w ha hw)
theorem TC.ret_ (h : TX N Q .ret E I) : TC P N Q .ret E I := fun a w ha hw => wp_ret (h a w ha hw)
theorem TQ.end_ {ops : Array Oper} : TQ P N ops (EnvOk N E) [] E I := fun a ha => ha
theorem TS.end_ {ops : Array Oper} {l : List Oper} (h : TL P N ops Q l E I) : TS P N ops (fun a w => wpList P ops Q l a w) [] E I := fun a w ha hw => h a w ha hw
theorem TX.then_ (h : TC P N Q y E I) : TX N (Exit.then (y.wp P Q) Q) .normal E I := h
theorem TX.then_exit {J : Act -> World -> Prop} (h : TX N Q (.exit i) E I) : TX N (Exit.then J Q) (.exit i) E I := h
theorem TX.then_ret {J : Act -> World -> Prop} (h : TX N Q .ret E I) : TX N (Exit.then J Q) .ret E I := h
theorem TX.in_normal (h : TX N Q .normal E I) : TX N (Exit.inBlock id Q) .normal E I := h
theorem TX.in_ret (h : TX N Q .ret E I) : TX N (Exit.inBlock id Q) .ret E I := h
theorem TX.in_same (h : TX N Q .normal E I) : TX N (Exit.inBlock id Q) (.exit id) E I := fun a w ha hw => by
  simpa [Exit.inBlock] using h a w ha hw
theorem TX.in_other (hne : Nat.beq i id = false) (h : TX N Q (.exit i) E I) : TX N (Exit.inBlock id Q) (.exit i) E I := fun a w ha hw => by
  have : i ≠ id := fun e => by subst e; simp at hne
  have h2 := h a w ha hw
  simpa [Exit.inBlock, this, Ne.symm this] using h2
theorem TX.round {α : Type} {E' : α -> Env} {I' : α -> World -> Prop} {m : α -> Nat} {b : Nat} (y : α) (hm : m y < b) (hE : Has E (E' y)) (hI : ∀ w, I w -> I' y w) :
    TX N (Exit.then (fun a w => ∃ y, m y < b /\ EnvOk N (E' y) a /\ I' y w) Q) .normal E I := fun a w ha hw => ⟨y, hm, ha.of_list hE, hI w hw⟩
theorem TC.loop_ {c : Code} {α : Type} (E' : α -> Env) (I' : α -> World -> Prop) (m : α -> Nat) (x0 : α) (hE : Has E (E' x0)) (hI : ∀ w, I w -> I' x0 w)
    (step : ∀ x, TC P N (Exit.then (fun a w => ∃ y, m y < m x /\ EnvOk N (E' y) a /\ I' y w) Q) c (E' x) (I' x)) : TC P N Q (.loop c) E I :=
  TC.loop E' I' m x0 (fun a w ha hw => ⟨ha.of_list hE, hI w hw⟩) step
theorem TC.cut (E' : Env) (I' : World -> Prop) (hE : Has E E') (hI : ∀ w, I w -> I' w) (h : TC P N Q y E' I') : TC P N Q y E I := fun a w ha hw => h a w (ha.of_list hE) (hI w hw)
theorem TX.cut {e : Exit} (E' : Env) (I' : World -> Prop) (hE : Has E E') (hI : ∀ w, I w -> I' w) (h : TX N Q e E' I') : TX N Q e E I := fun a w ha hw => h a w (ha.of_list hE) (hI w hw)
end
section
variable {P : Program} {N : Fr} {Q : Exit -> Act -> World -> Prop} {E : Env} {w0 : Base} {L : List Pc} {ops : Array Oper} {l : List Oper} {o : Oper} {xt : TypeId} {k k' : IntKind} {m n : Int}
theorem Kq6 (w : World) : (binOp .sub xt (.int k m) (.int k n)).run P w = .ok (.int k (k.wrap (m - n))) w := by simp [binOp, go_sem]
theorem KtE (w : World) : (binOp .mul xt (.int k m) (.int k n)).run P w = .ok (.int k (k.wrap (m * n))) w := by simp [binOp, go_sem]
theorem KbJ (w : World) : (binOp .leq xt (.int k m) (.int k n)).run P w = .ok (.bool (decide (m <= n))) w := by simp [binOp, go_sem]
theorem KC (w : World) : (binOp .gtr xt (.int k m) (.int k n)).run P w = .ok (.bool (decide (m > n))) w := by simp [binOp, go_sem]
theorem KO (w : World) : (binOp .geq xt (.int k m) (.int k n)).run P w = .ok (.bool (decide (m >= n))) w := by simp [binOp, go_sem]
theorem KK (w : World) : (binOp .eql xt (.int k m) (.int k n)).run P w = .ok (.bool (decide (m = n))) w := by
  have : (m == n) = decide (m = n) := by by_cases h : m = n <;> simp [h]
  simp [binOp, go_sem, this]
theorem Kau (w : World) : (binOp .neq xt (.int k m) (.int k n)).run P w = .ok (.bool (decide (m ≠ n))) w := by
  have : (m != n) = decide (m ≠ n) := by by_cases h : m = n <;> simp [h]
  simp only [binOp, go_sem, this];simp [go_sem, this]
theorem KaR (q : Int) (h0 : 0 <= n) (h1 : n <= k.bits) (hq : (2 : Int) ^ n.toNat = q) (w : World) : (binOp .shr xt (.int k m) (.int k' n)).run P w = .ok (.int k (m / q)) w := by
  subst hq;have h2 := shift_shr k k' m n h0 h1;show (Op.shift .shr k m k' n).run P w = _;rw [h2]; rfl
theorem KeO (q : Int) (h0 : 0 <= n) (h1 : n <= k.bits) (hq : (2 : Int) ^ n.toNat = q) (w : World) : (binOp .shl xt (.int k m) (.int k' n)).run P w = .ok (.int k (k.wrap (m * q))) w := by
  subst hq;show (Op.shift .shl k m k' n).run P w = _;unfold Op.shift;rw [if_neg (by omega)];have : min n.toNat k.bits = n.toNat := by omega
  rw [this]; rfl
theorem KaL {m n : Int} (h0 : 0 <= m) (h1 : 0 < n) (w : World) : (binOp .rem xt (.int .i64 m) (.int .i64 n)).run P w = .ok (.int .i64 (m % n)) w := by
  have hz : n ≠ 0 := by omega
  have := Int.tmod_eq_emod_of_nonneg (a := m) (b := n) h0;simp [binOp, go_sem, Op.intDiv, hz, this]
theorem Kmh {t u : TypeId} (hu : P.underlying u = some (.int k')) {d : TypeDesc} (ht : P.underlying t = some d) (w : World) : (convert t u (.int k m)).run P w = .ok (.int k' (k'.wrap m)) w := by
  simp [convert, run_underlying hu, run_underlying ht, go_sem]
theorem KA {r : Int} (h : k.wrap (m - n) = r) (w : World) : (binOp .sub xt (.int k m) (.int k n)).run P w = .ok (.int k r) w := h ▸ Kq6 w
theorem KbL {r : Int} (h : k.wrap (m + n) = r) (w : World) : (binOp .add xt (.int k m) (.int k n)).run P w = .ok (.int k r) w := h ▸ KoG w
theorem Kb4 {r : Int} (h : k.wrap (m * n) = r) (w : World) : (binOp .mul xt (.int k m) (.int k n)).run P w = .ok (.int k r) w := h ▸ KtE w
theorem Kbf {t u : TypeId} (hu : P.underlying u = some (.int k')) {d : TypeDesc} (ht : P.underlying t = some d) (h : k'.wrap m = m) (w : World) : (convert t u (.int k m)).run P w = .ok (.int k' m) w := by
  have := Kmh (k := k) (m := m) hu ht w;rwa [h] at this
theorem Pm.tail {w : World} {p : Pc} (h : Pm w0 (p :: L) w) : Pm w0 L w := ⟨h.bel, fun q hq => h.own q (List.mem_cons_of_mem _ hq), (List.pairwise_cons.1 h.apart).2, h.oth, h.low⟩
theorem Pm.nilrow {w : World} (h : Pm w0 L w) (e : TypeId) (size : Nat) : Pm w0 (.row (.slice none 0 0) e size 0 [] :: L) w :=
  h.add (Below.refl _ _) (World.ownsRow_nil w _ e size)
theorem TL.nilrow (e : TypeId) (size : Nat) (h : TL P N ops Q l E (Pm w0 (.row (.slice none 0 0) e size 0 [] :: L))) : TL P N ops Q l E (Pm w0 L) := fun a w ha hw => h a w ha (hw.nilrow e size)
theorem TC.nilrow {c : Code} (e : TypeId) (size : Nat) (h : TC P N Q c E (Pm w0 (.row (.slice none 0 0) e size 0 [] :: L))) : TC P N Q c E (Pm w0 L) := fun a w ha hw => h a w ha (hw.nilrow e size)
theorem TL.mem {I I' : World -> Prop} (hI : ∀ w, I w -> I' w) (h : TL P N ops Q l E I') : TL P N ops Q l E I := fun a w ha hw => h a w ha (hI w hw)
theorem TC.mem {c : Code} {I I' : World -> Prop} (hI : ∀ w, I w -> I' w) (h : TC P N Q c E I') : TC P N Q c E I := fun a w ha hw => h a w ha (hI w hw)
theorem K1 {w : World} {k : Nat} {A : Option Addr} {e : TypeId} {size n c : Nat} {xs : List Value} (h : Pm w0 L w) (hk : L[k]? = some (.row (.slice A n c) e size n xs)) : ∃ B, Kd w B size A n xs := ⟨_, Kd.of_own (h.at_ hk)⟩
end
def TH (P : Program) (N : Fr) (ops : Array Oper) (S : World -> Prop) (Q : Exit -> Act -> World -> Prop) (f : Nat) (listed : Array Bool) (E : Env) (I : World -> Prop) : Prop :=
  ∀ a w, EnvOk N E a -> I w -> wpAnyH P .any ops (NoPanic Q) S f listed a w
section
variable {P : Program} {N : Fr} {Q : Exit -> Act -> World -> Prop} {E : Env} {I S : World -> Prop} {ops : Array Oper} {f : Nat} {listed : Array Bool}
theorem TC.held {id : Nat} {l : List Oper} {ls : Array Bool} {n : Nat} (S : World -> Prop) (hm : P.follows .mixedOrders = true) (hn : l.toArray.size = n) (hls : Array.replicate n false = ls) (hI : ∀ w, I w -> I { w with drawn := w.drawn + 1 })
    (h : TH P N l.toArray S Q n ls E I) : TC P N Q (.region id l.toArray true) E I := fun a w ha hw => by
  subst hn hls;exact wp_region_noPanic (wp_region_held (S := S) hm (h a _ ha (hI w hw)))
theorem TH.take {o : Oper} {d : Nat} {v : Value} {listed' : Array Bool} (i : Nat) (hi : ops[i]? = some o) (hs : Region.noSelect ops = true) (hf : Region.free .any ops listed i = true) (hr : (Region.ready .any ops listed).contains i = true) (hl : listed.setIfInBounds i true = listed')
    (hg : o.guard = none) (hd : o.dst = some d) (hN : Nat.blt d N.n = true) (hv : Kv P N o E S v) (hS : ∀ w, I w -> S w)
    (h : TH P N ops S Q f listed' ((d, v) :: E) I) : TH P N ops S Q (f + 1) listed E I := fun a w ha hw => by
  subst hl;refine wpAnyH_take hi hs hf hr (fun c a w h => h) (v := v) (.inl ⟨by simp [Region.wanted, hg], fun w' hw' => hv a w' ha hw'⟩) (hS w hw) ?_;have := h (a.put o.dst v) w (hd ▸ ha.put d v (by simpa [Nat.blt_eq] using hN)) hw;exact this
def Hd (P : Program) (ops : Array Oper) (S : World -> Prop) (Q : Exit -> Act -> World -> Prop) (f : Nat) (listed : Array Bool) : Act -> World -> Prop := fun a w => S w /\ wpAnyH P .any ops (NoPanic Q) S f listed a w
theorem TX.held (hS : ∀ w, I w -> S w) (h : TH P N ops S Q f listed E I) : TX N (Exit.then (Hd P ops S Q f listed) (NoPanic Q)) .normal E I := fun a w ha hw => ⟨hS w hw, h a w ha hw⟩
theorem KfI {o : Oper} {i : Nat} {K : Act -> World -> Prop} {a : Act} {w : World} (hi : ops[i]? = some o) (hg : o.guard = none) (h : wpList P ops (Exit.then K (NoPanic Q)) [o] a w) : wpOp P ops (NoPanic Q) i K a w := by
  unfold wpOp;simp only [hi];unfold wpList at h;have hw : Region.wanted o (yielded ops a.tmps) = true := by simp [Region.wanted, hg]
  simp only [hw, if_true] at h ⊢;rcases h with h | ⟨h1, h2⟩
  · refine .inl ?_;unfold Oper.wp at h ⊢;generalize (execOp a.eval o).run P w = r at *
    cases r with
    | ok n w' => cases n <;> exact h
    | halt x w' => cases x <;> exact h
  · exact .inr ⟨h1, h2⟩
theorem TH.only {o : Oper} {listed' : Array Bool} (i : Nat) (hi : ops[i]? = some o) (hr : Region.ready .any ops listed = [i]) (hl : listed.setIfInBounds i true = listed') (hg : o.guard = none)
    (h : TL P N ops (Exit.then (Hd P ops S Q f listed') (NoPanic Q)) [o] E I) : TH P N ops S Q (f + 1) listed E I := fun a w ha hw => by
  subst hl;refine wpAnyH_all hr (by simp) fun j hj => ?_;have : j = i := by simpa using hj
  subst this;exact KfI hi hg (h a w ha hw)
theorem TH.done (hr : Region.ready .any ops listed = []) (h : TX N Q .normal E I) : TH P N ops S Q f listed E I := fun a w ha hw => wpAnyH_done (Q := NoPanic Q) hr (NoPanic.normal (h a w ha hw)) f
theorem Pm.sel {w0 : Base} {w : World} {L L' : List Pc} (h : Pm w0 L w) (hs : L'.Sublist L) : Pm w0 L' w := ⟨h.bel, fun q hq => h.own q (hs.subset hq), h.apart.sublist hs, h.oth, h.low⟩
end
section
variable {P : Program} (w : World)
theorem Kg8 (m : Nat) (h : m <= maxLen) : IntKind.i64.wrap (m : Int) = (m : Int) := by
 have : m <= 9223372036854775807 := by simp only [maxLen] at h; omega
 simp only [IntKind.wrap_i64]; omega
theorem Kmr (t u ty e : TypeId) (i : TypeInfo) (ht : P.underlying t = some (.slice e)) (hu : P.underlying u = some (.int .i64)) (hi : P.info? e = some i) (z : Value) (hz : i.zero = some z)
  (b : Option Addr) (sLen sCap : Nat) (h : sLen <= sCap) (hb : b = none \/ ∃ g cur, b = some ⟨g, 0, none⟩ /\ w.heap[g]? = some (.cells cur e (0, 0))) :
  (Builtin.append_ #[t, u] ty #[.slice b sLen sCap, .int .i64 0]).run P w = .ok (.slice b sLen sCap) w := by
 have h0 : IntKind.i64.wrap 0 = 0 := rfl;have h1 : ¬ ((0 : Int) > 2 ^ 48) := by decide
 cases b with
 | none => simp [Builtin.append_, run_underlying ht, run_underlying hu, sizeOf, typeInfo, zeroValue, hi, hz, h0, h1, h, go_sem]
 | some a => simp [Builtin.append_, run_underlying ht, run_underlying hu, sizeOf, typeInfo, zeroValue, hi, hz, h0, h1, h, storeCells, go_sem]
theorem Kpc (t u ty e : TypeId) (i : TypeInfo) (ht : P.underlying t = some (.slice e)) (hu : P.underlying u = some (.int .i64)) (hi : P.info? e = some i) (z : Value) (hz : i.zero = some z) (hsz : 0 < i.size)
  (m : Nat) (hm : 0 < m) (h63 : m <= maxLen) (h48 : m * i.bytes <= 140737488355328) :
  (Builtin.append_ #[t, u] ty #[.slice none 0 0, .int .i64 (m : Int)]).run P w =
   .ok (.slice (some ⟨w.heap.size, 0, none⟩) m (grownCap w m 0 e)) (w.drew.alloc (.cells (Builtin.zeroCells z.cells m ++ Builtin.zeroCells z.cells (grownCap w m 0 e - m)) e)) := by
 have hw := Kg8 m h63;have h63' : ¬ (9223372036854775807 < (m : Int)) := by simp only [maxLen] at h63; omega
 have h2 : ((m : Int) * (i.bytes : Int)) = ((m * i.bytes : Nat) : Int) := by simp
 have h48' : ¬ (281474976710656 < (m : Int) * (i.bytes : Int)) := by rw [h2]; omega
 have h3 : ¬ (281474976710656 < Builtin.nextslicecap m 0 * i.bytes) := by rw [nextslicecap_zero hm]; omega
 have hn : m ≠ 0 := by omega
 have hs : i.size ≠ 0 := by omega
 have hneg : ¬ ((m : Int) < 0) := by omega
 have hms : m * i.size ≠ 0 := Nat.mul_ne_zero hn hs;have has : (asInt (.int .i64 (m : Int)) : Sem Int) = pure (m : Int) := rfl;simp [Builtin.append_, run_underlying ht, run_underlying hu, sizeOf, typeInfo, zeroValue, hi, hz, hw, hms, hn, hs, has, h63', h48', h3, hneg, Question.forced, newRow, grownCap, Builtin.firstCells]
theorem Kqt (t u ty e : TypeId) (i : TypeInfo) (ht : P.underlying t = some (.slice e)) (hu : P.underlying u = some (.int .i64)) (hi : P.info? e = some i) (z : Value) (hz : i.zero = some z) (hsz : 0 < i.size) (hzs : z.cells.size = i.size) (hz1 : ∀ v ∈ (Builtin.zeroCells z.cells 1).toList, v.oneCell' = true)
  (g sLen sCap : Nat) (cur : Array Value) (hg : w.heap[g]? = some (.cells cur e (0, 0))) (m : Nat) (hm : 0 < m) (h63 : m <= maxLen) (h48 : m * i.bytes <= 140737488355328) (h1 : ∀ v ∈ (Builtin.zeroCells z.cells m).toList, v.oneCell' = true)
  (hroom : sLen + m <= sCap) (hfit : sLen * i.size + m * i.size <= cur.size) :
  (Builtin.append_ #[t, u] ty #[.slice (some ⟨g, 0, none⟩) sLen sCap, .int .i64 (m : Int)]).run P w =
   .ok (.slice (some ⟨g, 0, none⟩) (sLen + m) sCap) (w.setRow g (cur.toList.take (sLen * i.size) ++ (Builtin.zeroCells z.cells m).toList ++ cur.toList.drop (sLen * i.size + (Builtin.zeroCells z.cells m).toList.length)).toArray) := by
 have hw := Kg8 m h63;have h2 : ((m : Int) * (i.bytes : Int)) = ((m * i.bytes : Nat) : Int) := by simp
 have h48' : ¬ (281474976710656 < (m : Int) * (i.bytes : Int)) := by rw [h2]; omega
 have hn : m ≠ 0 := by omega
 have hs : i.size ≠ 0 := by omega
 have hneg : ¬ ((m : Int) < 0) := by omega
 have hms : m * i.size ≠ 0 := Nat.mul_ne_zero hn hs;have has : (asInt (.int .i64 (m : Int)) : Sem Int) = pure (m : Int) := rfl;have hst := run_storeCells_at P g (sLen * i.size) e (Builtin.zeroCells z.cells m).toList 0 cur w hg (by simp [size_zeroCells, hzs]; omega) h1;simp only [Nat.add_zero] at hst;simp [Builtin.append_, run_underlying ht, run_underlying hu, sizeOf, typeInfo, zeroValue, hi, hz, hw, hms, hn, hs, has, h48', hneg, hroom, Addr.add_lit, hst]
theorem KoD (t u ty e : TypeId) (i : TypeInfo) (ht : P.underlying t = some (.slice e)) (hu : P.underlying u = some (.int .i64)) (hi : P.info? e = some i) (z : Value) (hz : i.zero = some z) (hsz : 0 < i.size)
  (b : Addr) (sLen sCap : Nat) (olds : List Value) (hlo : olds.length = sLen * i.size) (holds : ∀ j v, olds[j]? = some v -> w.cell? (b.add j) = some v) (m : Nat) (hm : 0 < m) (h63 : sLen + m <= maxLen) (h48 : (sLen + m) * i.bytes <= 140737488355328) (hg : sCap < sLen + m) :
  (Builtin.append_ #[t, u] ty #[.slice (some b) sLen sCap, .int .i64 (m : Int)]).run P w =
   .ok (.slice (some ⟨w.heap.size, 0, none⟩) (sLen + m) (grownCap w (sLen + m) sCap e)) (w.drew.alloc (.cells (olds.toArray ++ Builtin.zeroCells z.cells m ++ Builtin.zeroCells z.cells (grownCap w (sLen + m) sCap e - (sLen + m))) e)) := by
 have hw := Kg8 m (by omega);have h63' : ¬ (9223372036854775807 < ((sLen : Int) + (m : Int))) := by simp only [maxLen] at h63; omega
 have h2 : ((m : Int) * (i.bytes : Int)) = ((m * i.bytes : Nat) : Int) := by simp
 have hle : m * i.bytes <= (sLen + m) * i.bytes := Nat.mul_le_mul_right _ (by omega);have h48' : ¬ (281474976710656 < (m : Int) * (i.bytes : Int)) := by rw [h2]; omega
 have h3 : ¬ (281474976710656 < Builtin.nextslicecap (sLen + m) sCap * i.bytes) := by
  have := growslice_fits (bytes := i.bytes) (old := sCap) (need := sLen + m) (by omega) h48;omega
 have hn : m ≠ 0 := by omega
 have hs : i.size ≠ 0 := by omega
 have hneg : ¬ ((m : Int) < 0) := by omega
 have hms : m * i.size ≠ 0 := Nat.mul_ne_zero hn hs;have has : (asInt (.int .i64 (m : Int)) : Sem Int) = pure (m : Int) := rfl;have hr : ¬ (sLen + m <= sCap) := by omega
 have hfo := run_firstCells_some (P := P) w.drew i.size sLen b sLen sCap olds hlo (by simpa using holds);simp [Builtin.append_, run_underlying ht, run_underlying hu, sizeOf, typeInfo, zeroValue, hi, hz, hw, hms, hn, hs, has, h63', h48', h3, hneg, hr, hfo, Question.forced, newRow, grownCap]
theorem Ksf (base : Nat) (t u ty e : TypeId) (i : TypeInfo) (z : Value) (size bytes : Nat) (ht : P.underlying t = some (.slice e)) (hu : P.underlying u = some (.int .i64)) (hi : P.info? e = some i) (hz : i.zero = some z)
  (hsize : i.size = size) (hby : i.bytes = bytes) (hzs : z.cells.size = size) (hsz : 0 < size) (hz1 : ∀ k, ∀ v ∈ (Builtin.zeroCells z.cells k).toList, v.oneCell' = true)
  (v : Value) (n : Nat) (xs : List Value) (hown : w.ownsRow base e size v n xs) (m : Nat)
  (h63 : n + m <= maxLen) (hbytes : (n + m) * bytes <= 140737488355328) (hbase : base <= w.heap.size) :
  ∃ v' w', (Builtin.append_ #[t, u] ty #[v, .int .i64 (m : Int)]).run P w = .ok v' w' /\ w'.ownsRow base e size v' (n + m) (xs ++ (Builtin.zeroCells z.cells m).toList) /\ w.grownBy w' v.ownBlock /\
   (v'.ownBlock = v.ownBlock \/ v'.ownBlock = some w.heap.size) := by
 subst hsize;subst hby;have hl : (Builtin.zeroCells z.cells m).toList.length = m * i.size := by simp [size_zeroCells, hzs]
 have hlen : (xs ++ (Builtin.zeroCells z.cells m).toList).length = (n + m) * i.size := by rw [List.length_append, hown.1, hl, Nat.add_mul]
 have hmb : m * i.bytes <= (n + m) * i.bytes := Nat.mul_le_mul_right _ (by omega)
 have grown : ∀ (old : Nat), old < n + m -> ∀ (row : Option Nat),
   (w.drew.alloc (.cells (xs.toArray ++ Builtin.zeroCells z.cells m ++ Builtin.zeroCells z.cells (grownCap w (n + m) old e - (n + m))) e)).ownsRow base e i.size
    (.slice (some ⟨w.heap.size, 0, none⟩) (n + m) (grownCap w (n + m) old e)) (n + m) (xs ++ (Builtin.zeroCells z.cells m).toList) /\
   w.grownBy (w.drew.alloc (.cells (xs.toArray ++ Builtin.zeroCells z.cells m ++ Builtin.zeroCells z.cells (grownCap w (n + m) old e - (n + m))) e)) row := by
  intro old ho row;have hge := grownCap_ge w (n + m) old e;have hcm : grownCap w (n + m) old e <= maxLen := grownCap_le_maxLen w (n + m) old e h63;refine ⟨⟨hlen, .inr ⟨w.heap.size, _, _, rfl, hbase, heap_alloc_new w.drew _, hge, hcm, ?_, ?_⟩⟩, ⟨rfl, rfl, rfl, by simp, fun k hk _ => Below.heap_alloc w.drew _ k hk⟩⟩
  ·simp only [Array.size_append, List.size_toArray, size_zeroCells, hzs, hown.1, <- Nat.add_mul]
   congr 1
   omega
  ·simp only [Array.toList_append, List.append_assoc];rw [<- List.append_assoc, <- hlen];exact List.take_left
 rcases hown.2 with ⟨rfl, rfl⟩ | ⟨g, cap, cur, rfl, hbg, hg, hnc, hcm, hcs, htake⟩
 ·have hx : xs = [] := List.eq_nil_of_length_eq_zero (by simpa using hown.1);subst hx;by_cases hm : m = 0
  ·subst hm;refine ⟨.slice none 0 0, w, Kmr w t u ty e i ht hu hi z hz none 0 0 (Nat.le_refl _) (.inl rfl), ?_, World.grownBy.refl w _, .inl rfl⟩;have : (Builtin.zeroCells z.cells 0).toList = [] := by simp [Builtin.zeroCells]
   rw [this];exact World.ownsRow_nil w base e i.size
  ·have hr := Kpc w t u ty e i ht hu hi z hz hsz m (by omega) (by omega) (by omega);have hgr := grown 0 (by omega) (Value.ownBlock (.slice none 0 0));simp only [Nat.zero_add, List.nil_append, Array.empty_append] at hgr ⊢;exact ⟨_, _, hr, hgr.1, hgr.2, .inr rfl⟩
 ·by_cases hm : m = 0
  ·subst hm;refine ⟨_, w, Kmr w t u ty e i ht hu hi z hz _ n cap hnc (.inr ⟨g, cur, rfl, hg⟩), ?_, World.grownBy.refl w _, .inl rfl⟩;have : (Builtin.zeroCells z.cells 0).toList = [] := by simp [Builtin.zeroCells]
   rw [this, List.append_nil];exact hown
  ·by_cases hroom : n + m <= cap
   ·have hfit : n * i.size + m * i.size <= cur.size := by rw [hcs, <- Nat.add_mul]; exact Nat.mul_le_mul_right _ hroom
    have hr := Kqt w t u ty e i ht hu hi z hz hsz hzs (hz1 1) g n cap cur hg m (by omega) (by omega) (by omega) (hz1 m) hroom hfit;refine ⟨_, _, hr, ⟨hlen, .inr ⟨g, cap, _, rfl, hbg, setRow_heap w g cur _ e _ hg, hroom, hcm, ?_, ?_⟩⟩, ⟨rfl, rfl, rfl, by simp, fun k _ hk => setRow_other w g k _ (fun e => hk (by simp [Value.ownBlock, e]))⟩, .inl rfl⟩
    ·simp only [List.size_toArray, List.length_append, List.length_take, List.length_drop, Array.length_toList, hl];omega
    ·rw [htake, <- hlen];exact List.take_left
   ·have holds : ∀ j u, xs[j]? = some u -> w.cell? ((⟨g, 0, none⟩ : Addr).add j) = some u := hown.cells (g := g) rfl;have hr := KoD w t u ty e i ht hu hi z hz hsz ⟨g, 0, none⟩ n cap xs hown.1 holds m (by omega) h63 hbytes (by omega);have hgr := grown cap (by omega) (Value.ownBlock (.slice (some ⟨g, 0, none⟩) n cap));exact ⟨_, _, hr, hgr.1, hgr.2, .inr rfl⟩
end
section
variable {P : Program} {N : Fr} {Q : Exit -> Act -> World -> Prop} {E : Env} {w0 : Base} {L : List Pc} {ops : Array Oper} {l : List Oper} {o : Oper} {I : World -> Prop}
theorem TL.zeros {d k : Nat} {s x : Operand} {t u e : TypeId} {size bytes n c m : Nat} {A0 : Option Addr} {olds zs : List Value} {z : Value} (hg : o.guard = none) (hd : o.dst = some d) (hN : Nat.blt d N.n = true)
  (ho : o.op = .call { callee := .builtin .append, args := #[s, x], argTypes := #[t, u] }) (hE : Elem P t e size bytes) (hu : P.underlying u = some (.int .i64)) (hs : ev E s = some (.slice A0 n c)) (hx : ev E x = some (.int .i64 (m : Int)))
  (hk : L[k]? = some (.row (.slice A0 n c) e size n olds)) (hzv : (P.info? e).map (·.zero) = some (some z)) (hzs : (Builtin.zeroCells z.cells m).toList = zs) (h1 : ∀ k, ∀ u ∈ (Builtin.zeroCells z.cells k).toList, u.oneCell' = true) (hlim : (n + m) * bytes <= 140737488355328) (M : Nat) (hM : M = n + m)
  (h : ∀ A' c', M <= c' -> c' <= maxLen -> TL P N ops Q l ((d, .slice A' M c') :: E) (Pm w0 (L.set k (.row (.slice A' M c') e size M (olds ++ zs))))) : TL P N ops Q (o :: l) E (Pm w0 L) := by
 subst hM hzs;refine TL.run (α := { p : Option Addr × Nat // n + m <= p.2 /\ p.2 <= maxLen }) (r := fun p => .slice p.1.1 (n + m) p.1.2) (I' := fun p => Pm w0 (L.set k (.row (.slice p.1.1 (n + m) p.1.2) e size (n + m) (olds ++ (Builtin.zeroCells z.cells m).toList)))) hg hd hN (fun a w ha hw => ?_) (fun p => h p.1.1 p.1.2 p.2.1 p.2.2);obtain ⟨i, z', hi, hz, hsz, hby, hzs⟩ := hE.info
 have hzz : z' = z := by
  rw [hi] at hzv;simp only [Option.map_some, Option.some.injEq] at hzv;rw [hz] at hzv
  injection hzv
 subst hzz
 have hmx : n + m <= maxLen := by
  have : n + m <= (n + m) * bytes := Nat.le_mul_of_pos_right _ hE.big;unfold maxLen; omega
 obtain ⟨v', w', hrun, hown', hgr, hkey⟩ := Ksf w w0.b t u o.type e i z' size bytes hE.und hu hi hz hsz hby hzs hE.pos h1 _ n olds (hw.at_ hk) m hmx hlim hw.base;obtain ⟨A', c', rfl, hc1, hc2⟩ := Kiq hown';refine ⟨⟨(A', c'), hc1, hc2⟩, w', ?_, hw.turn hk hgr hown' (fun g hg => ?_) (fun k o e => ?_)⟩
 ·unfold execOp; rw [ho];simp only [resolve, invoke, builtin, Sem.run_bind, Sem.run_pure, Result.andThen_ok, List.map_toArray, List.map_cons, List.map_nil, ha.eval hs, ha.eval hx, hrun]
 ·rcases hkey with hkey | hkey
  ·exact .inl (hkey.symm.trans hg)
  ·right
   have : (Value.slice A' (n + m) c').ownBlock = some g := hg;rw [hkey] at this
   injection this with this
   omega
 ·cases e
theorem Kt1 {a : Act} (ha : EnvOk N E a) {j d : Nat} {b : Bool} (hd : (ops[j]?).bind (·.dst) = some d) (hE : look E d = some (.bool b)) : yielded ops a.tmps j = some b := by
 have := ha.slot d _ hE;simp [yielded, hd, this]
theorem Kdu {a : Act} (ha : EnvOk N E a) {j d : Nat} {b b' : Bool} (hg : o.guard = some (j, b')) (hd : (ops[j]?).bind (·.dst) = some d) (hE : look E d = some (.bool b)) : Region.wanted o (yielded ops a.tmps) = (b == b') := by
 have := Kt1 ha hd hE;unfold Region.wanted;rw [hg];simp [this]
theorem TL.on {j d : Nat} {b : Bool} (hg : o.guard = some (j, b)) (hd : (ops[j]?).bind (·.dst) = some d) (hE : look E d = some (.bool b)) (h : TL P N ops Q ({ o with guard := none } :: l) E I) : TL P N ops Q (o :: l) E I := fun a w ha hw => by
 have hw1 := Kdu ha hg hd hE;have := h a w ha hw;unfold wpList at this ⊢;rw [if_pos (by simp [Region.wanted])] at this;rw [if_pos (by simp [hw1])];exact this
theorem TL.off {j d t : Nat} {b b' : Bool} (hg : o.guard = some (j, b')) (hd : (ops[j]?).bind (·.dst) = some d) (hE : look E d = some (.bool b)) (hne : (b == b') = false) (ht : o.dst = some t) (hN : Nat.blt t N.n = true) (h : TL P N ops Q l ((t, undef) :: E) I) : TL P N ops Q (o :: l) E I := fun a w ha hw => by
 have hw1 := Kdu ha hg hd hE;unfold wpList;rw [if_neg (by rw [hw1, hne]; decide), ht];exact h _ _ (ha.put t undef (by simpa [Nat.blt_eq] using hN)) hw
theorem TL.offU {j d t : Nat} {b' : Bool} (hg : o.guard = some (j, b')) (hd : (ops[j]?).bind (·.dst) = some d) (hE : look E d = some undef) (ht : o.dst = some t) (hN : Nat.blt t N.n = true) (h : TL P N ops Q l ((t, undef) :: E) I) : TL P N ops Q (o :: l) E I := fun a w ha hw => by
 have h1 : yielded ops a.tmps j = none := by
  have := ha.slot d _ hE;simp [yielded, hd, this, undef]
 have hw1 : Region.wanted o (yielded ops a.tmps) = false := by
  unfold Region.wanted;rw [hg];simp [h1]
 unfold wpList;rw [if_neg (by rw [hw1]; decide), ht];exact h _ _ (ha.put t undef (by simpa [Nat.blt_eq] using hN)) hw
theorem KhL {c x y : Operand} {I : World -> Prop} {b : Bool} {v : Value} (ho : o.op = .pick c x y) (hc : ev E c = some (.bool b)) (hv : (if b then ev E x else ev E y) = some v) : Kv P N o E I v := fun a w ha _ => by
 unfold execOp; rw [ho];simp only [ha.eval hc]
 cases b with
 | true =>
  have h2 : a.eval x = v := ha.eval (by simpa using hv);rw [<- h2]; rfl
 | false =>
  have h2 : a.eval y = v := ha.eval (by simpa using hv);rw [<- h2]; rfl
theorem KbC {xt : TypeId} {x : Operand} {I : World -> Prop} {b : Bool} (ho : o.op = .unOp .not xt x) (hx : ev E x = some (.bool b)) : Kv P N o E I (.bool (!b)) := fun a w ha _ => by
 unfold execOp; rw [ho];simp only [ha.eval hx];simp [Op.unary, go_sem]
end
theorem Kt2 {x : Int} (h : 0 <= x /\ x <= 255) : ((UInt8.ofNat x.toNat).toNat : Int) = x := by
  rw [UInt8.toNat_ofNat']; omega
section
variable {P : Program} {N : Fr} {Q : Exit -> Act -> World -> Prop} {E : Env} {w0 : Base} {L : List Pc} {ops : Array Oper} {l : List Oper} {o : Oper}
theorem Kfz {t : TypeId} (h : P.underlying t = some .string) {s : List Int} {k : IntKind} {i : Nat} {x : Int} (hx : s[i]? = some x) (hr : 0 <= x /\ x <= 255) (w : World) : (Instr.index t (.string (strOfNums s)) (.int k (i : Int))).run P w = .ok (.int .u8 x) w := by
  have hlt : i < s.length := (List.getElem?_eq_some_iff.1 hx).1;have hsz := strOfNums_size s;rw [run_index_string w t _ k _ h, dif_pos (by omega)]
  congr 2
  have e : ((strOfNums s)[((i : Int)).toNat]'(by omega)) = UInt8.ofNat x.toNat := by
    have : (strOfNums s)[((i : Int)).toNat]'(by omega) = (strOfNums s).data[i]'(by rw [show (strOfNums s).data.size = (strOfNums s).size from rfl]; omega) := rfl;rw [this];simp only [strOfNums, List.getElem_toArray, List.getElem_map];rw [(List.getElem?_eq_some_iff.1 hx).2]
  rw [e];exact Kt2 hr
end
theorem Ksw {α : Type} (xs vs : List α) (off m : Nat) (h : off + vs.length <= m) (hm : m <= xs.length) : (xs.take off ++ vs ++ xs.drop (off + vs.length)).take m = (xs.take m).take off ++ vs ++ (xs.take m).drop (off + vs.length) := by
  refine List.ext_getElem? fun i => ?_;have hl1 : (xs.take off).length = off := by simp; omega
  have hl2 : ((xs.take m).take off).length = off := by simp; omega
  simp only [List.getElem?_take, List.append_assoc, List.getElem?_append, hl1, hl2, List.getElem?_drop];split <;> split <;> (try split) <;> (try split) <;> first | rfl | omega | (simp only [List.getElem?_take]; split <;> first | rfl | omega) | (simp; omega)
section
variable {P : Program} {N : Fr} {Q : Exit -> Act -> World -> Prop} {E : Env} {w0 : Base} {L : List Pc} {ops : Array Oper} {l : List Oper} {o : Oper}
theorem KiF {w : World} {B g n c size off : Nat} {e : TypeId} {xs vs : List Value} (h : w.ownsRow B e size (.slice (some ⟨g, 0, none⟩) n c) n xs) (hl : off + vs.length <= xs.length) :
    (∃ cur : Array Value, w.heap[g]? = some (.cells cur e (0, 0)) /\ off + vs.length <= cur.size /\ (w.setRow g (cur.toList.take off ++ vs ++ cur.toList.drop (off + vs.length)).toArray).ownsRow B e size (.slice (some ⟨g, 0, none⟩) n c) n (xs.take off ++ vs ++ xs.drop (off + vs.length))) := by
  obtain ⟨h1, h2⟩ := h;rcases h2 with ⟨e1, h2⟩ | ⟨g', cap, cur, a, hb, hg, hn, hm, hs, ht⟩
  · cases e1
  · cases a;have hle : n * size <= cur.size := by rw [hs]; exact Nat.mul_le_mul_right _ hn
    have hfit : off + vs.length <= n * size := by rw [h1] at hl; exact hl
    refine ⟨cur, hg, by omega, ⟨?_, .inr ⟨g, c, _, rfl, hb, setRow_heap w g cur _ e _ hg, hn, hm, ?_, ?_⟩⟩⟩
    · rw [<- h1]; simp; omega
    · rw [<- hs]; simp; omega
    · rw [<- ht];exact Ksw _ _ _ _ hfit (by simpa using hle)
theorem TL.rowset {t e : TypeId} {x y : Operand} {g off k n c size : Nat} {v : Value} {xs vs : List Value} (hg : o.guard = none) (hd : o.dst = none) (ho : o.op = .store t x y) (hx : ev E x = some (.pointer (some ⟨g, off, none⟩))) (hy : ev E y = some v)
    (hk : L[k]? = some (.row (.slice (some ⟨g, 0, none⟩) n c) e size n xs)) (hv : v.cells = vs.toArray) (hs : ∀ w : World, (sizeOf t).run P w = .ok vs.length w) (h1 : ∀ u ∈ vs, u.oneCell' = true) (hl : off + vs.length <= xs.length) {xs' : List Value} (hL : xs.take off ++ vs ++ xs.drop (off + vs.length) = xs')
    (h : TL P N ops Q l E (Pm w0 (L.set k (.row (.slice (some ⟨g, 0, none⟩) n c) e size n xs')))) : TL P N ops Q (o :: l) E (Pm w0 L) := fun a w ha hw =>
  wpList_plain hg fun K hK => by
    subst hL;obtain ⟨cur, hcur, hfit, hown⟩ := KiF (hw.at_ hk) hl
    have hrun : (execOp a.eval o).run P w = .ok .skip (w.setRow g (cur.toList.take off ++ vs ++ cur.toList.drop (off + vs.length)).toArray) := by
      unfold execOp; rw [ho];simp only [ha.eval hx, ha.eval hy];have hst := run_storeCells_at (P := P) g off e vs 0 cur w hcur (by simpa using hfit) h1;simp only [Nat.add_zero] at hst
      have hsv : (storeVar t ⟨g, off, none⟩ v).run P w = .ok () (w.setRow g (cur.toList.take off ++ vs ++ cur.toList.drop (off + vs.length)).toArray) := by
        unfold storeVar;simp only [Sem.run_bind, hs, Result.andThen_ok, hv]
        simpa [Result.andThen] using hst
      simp only [Instr.storeAt, Instr.sureAddr, Sem.run_bind, Sem.run_pure, Result.andThen_ok, hsv]
    unfold Oper.wp;rw [hrun];show K (a.put o.dst undef) _;rw [hd];exact hK _ _ (h _ _ (ha.put0 _) (hw.turn hk (Kff _ _) hown (fun g' hg' => .inl hg') (fun k o e => by cases e)))
theorem Kj0 {w : World} {k g n c i : Nat} {e : TypeId} {size : Nat} {xs : List Value} {v : Value} (h : Pm w0 L w) (hk : L[k]? = some (.row (.slice (some ⟨g, 0, none⟩) n c) e size n xs)) (hi : xs[i]? = some v) : w.cell? ⟨g, i, none⟩ = some v := by
  have := (h.at_ hk).cells (g := g) rfl i v hi;rw [<- this]
  congr 1
  unfold Addr.add; split <;> simp_all
theorem TL.mkrow {d m : Nat} {t e : TypeId} {size bytes : Nat} {x y : Operand} {k1 k2 : IntKind} {z : Value} {zs : List Value} (hg : o.guard = none) (hd : o.dst = some d) (hN : Nat.blt d N.n = true)
    (ho : o.op = .makeSlice t x y) (hx : ev E x = some (.int k1 (m : Int))) (hy : ev E y = some (.int k2 (m : Int))) (hE : Elem P t e size bytes) (hzv : (P.info? e).map (·.zero) = some (some z)) (hzs : (Go.madeCells z.cells (m * size)).toList = zs) (hlim : m * bytes <= 140737488355328)
    (h : ∀ g, TL P N ops Q l ((d, .slice (some ⟨g, 0, none⟩) m m) :: E) (Pm w0 (.row (.slice (some ⟨g, 0, none⟩) m m) e size m zs :: L))) : TL P N ops Q (o :: l) E (Pm w0 L) := by
  subst hzs;refine TL.run (α := Nat) (r := fun g => .slice (some ⟨g, 0, none⟩) m m) (I' := fun g => Pm w0 (.row (.slice (some ⟨g, 0, none⟩) m m) e size m (madeCells z.cells (m * size)).toList :: L)) hg hd hN (fun a w ha hw => ?_) h;obtain ⟨i, z', hi, hz, hsz, hby, hzs⟩ := hE.info
  have hzz : z' = z := by
    rw [hi] at hzv;simp only [Option.map_some, Option.some.injEq] at hzv;rw [hz] at hzv
    injection hzv
  subst hzz
  have hmx : m <= maxLen := by
    have : m <= m * bytes := Nat.le_mul_of_pos_right _ hE.big;unfold maxLen; omega
  obtain ⟨w', hrun, hown, hgr⟩ := run_make_full (P := P) w w.heap.size t e i z' size hE.und hi hz hsz k1 k2 m (by rw [hby, Nat.mul_comm]; omega) hmx (Nat.le_refl _);refine ⟨w.heap.size, w', ?_, hw.add ((Below.refl _ _).grown hgr (Nat.le_refl _) (fun k e => by cases e)) hown⟩;unfold execOp; rw [ho];simp only [ha.eval hx, ha.eval hy, Sem.run_bind, hrun, Result.andThen_ok, Sem.run_pure]
theorem KbE (v : Value) (hv : v.cells = #[v]) (m : Nat) : (Go.madeCells v.cells (m * 1)).toList = List.replicate m v := by
  rw [hv];refine List.ext_getElem (by simp [madeCells]) fun i h1 h2 => ?_;simp [madeCells, Nat.mod_one]
theorem TL.rowhead {d k n c hi size : Nat} {t e : TypeId} {x y : Operand} {k2 : IntKind} {A : Option Addr} {xs xs' : List Value} (hg : o.guard = none) (hd : o.dst = some d) (hN : Nat.blt d N.n = true)
    (ho : o.op = .slice t x none (some y) none) (hx : ev E x = some (.slice A n c)) (hy : ev E y = some (.int k2 (hi : Int))) (ht : P.underlying t = some (.slice (P.elem t))) (hs : ∀ w : World, (sizeOf (P.elem t)).run P w = .ok size w)
    (hk : L[k]? = some (.row (.slice A n c) e size n xs)) (hh : hi <= n) (hc : n <= c) (hxs : xs.take (hi * size) = xs')
    (h : TL P N ops Q l ((d, .slice A hi c) :: E) (Pm w0 (L.set k (.row (.slice A hi c) e size hi xs')))) : TL P N ops Q (o :: l) E (Pm w0 L) := by
  subst hxs;refine TL.run (α := Unit) (r := fun _ => .slice A hi c) (I' := fun _ => Pm w0 (L.set k (.row (.slice A hi c) e size hi (xs.take (hi * size))))) hg hd hN (fun a w ha hw => ⟨(), w, ?_, ?_⟩) (fun _ => h)
  · have hrow := hw.at_ hk;unfold execOp; rw [ho];simp only [Option.map_some, Option.map_none, ha.eval hx, ha.eval hy, run_sliceAt_slice w t _ _ _ _ ht, run_slice_h w t A n c ht k2 (hi : Int) (by omega) (by omega), hs, Result.andThen_ok, Sem.run_bind, Sem.run_pure, sliced, Int.toNat_natCast, Nat.zero_mul, Nat.sub_zero];rcases hrow.2 with ⟨e1, h2⟩ | ⟨g, cap, cur, a1, r⟩
    · cases e1;have : hi = 0 := by omega
      subst this;simp
    · cases a1;by_cases hc0 : c = 0
      · simp [hc0]
      · rw [if_neg hc0];have : (⟨g, 0, none⟩ : Addr).add 0 = ⟨g, 0, none⟩ := by unfold Addr.add; split <;> simp_all
        rw [Option.map_some, this]
  · have hrow := hw.at_ hk;refine hw.turn hk (World.grownBy.refl w _) ?_ (fun g hg => .inl (by cases A <;> exact hg)) (fun _ _ e => by cases e);obtain ⟨h1, h2⟩ := hrow;refine ⟨?_, ?_⟩
    · rw [List.length_take, h1];exact Nat.min_eq_left (Nat.mul_le_mul_right _ hh)
    · rcases h2 with ⟨e1, h2⟩ | ⟨g, cap, cur, a1, hb, hgg, hn, hm, hs1, ht1⟩
      · cases e1;have : hi = 0 := by omega
        subst this;exact .inl ⟨rfl, rfl⟩
      · cases a1;refine .inr ⟨g, c, cur, rfl, hb, hgg, by omega, hm, hs1, ?_⟩;rw [<- ht1, List.take_take, Nat.min_eq_left (Nat.mul_le_mul_right _ hh)]
theorem TC.join {α : Type} {x y : Code} {I : World -> Prop} (E' : α -> Env) (I' : α -> World -> Prop) (h : TC P N (Exit.then (fun a w => ∃ s, EnvOk N (E' s) a /\ I' s w) Q) x E I) (hy : ∀ s, TC P N Q y (E' s) (I' s)) : TC P N Q (.seq x y) E I :=
  TC.seq h fun a w ⟨s, h1, h2⟩ => hy s a w h1 h2
theorem TX.joined {α : Type} {I : World -> Prop} {E' : α -> Env} {I' : α -> World -> Prop} (s : α) (hE : Has E (E' s)) (hI : ∀ w, I w -> I' s w) : TX N (Exit.then (fun a w => ∃ s, EnvOk N (E' s) a /\ I' s w) Q) .normal E I := fun a w ha hw => ⟨s, ha.of_list hE, hI w hw⟩
theorem TX.nilrow {ex : Exit} (e : TypeId) (size : Nat) (h : TX N Q ex E (Pm w0 (.row (.slice none 0 0) e size 0 [] :: L))) : TX N Q ex E (Pm w0 L) := fun a w ha hw => h a w ha (hw.nilrow e size)
theorem Pm.swap {w : World} {p q : Pc} (h : Pm w0 (p :: q :: L) w) : Pm w0 (q :: p :: L) w := by
  refine ⟨h.bel, fun r hr => h.own r ?_, ?_, h.oth, h.low⟩
  · simp only [List.mem_cons] at hr ⊢;rcases hr with h | h | h
    · exact .inr (.inl h)
    · exact .inl h
    · exact .inr (.inr h)
  · have h1 := List.pairwise_cons.1 h.apart;have h2 := List.pairwise_cons.1 h1.2;refine List.Pairwise.cons (fun r hr => ?_) (List.Pairwise.cons (fun r hr => h1.1 r (List.mem_cons_of_mem _ hr)) h2.2);rcases List.mem_cons.1 hr with rfl | hr
    · exact fun g hg hgr => h1.1 q List.mem_cons_self g hgr hg
    · exact h2.1 r hr
theorem Kqx (w : World) (g m : Nat) : w.grownBy (w.freeze ⟨g, m, none⟩ 1) (some g) := by
  unfold World.freeze;rw [if_neg (by decide)];refine ⟨rfl, rfl, rfl, by simp, fun k hk hne => ?_⟩;have : g ≠ k := fun e => hne (by rw [e]);simp [Array.getElem?_modify, this]
theorem TL.mark {d k g n : Nat} {t e e1 : TypeId} {x : Operand} {xs : List Value} (hg : o.guard = none) (hd : o.dst = some d) (hN : Nat.blt d N.n = true)
    (ho : o.op = .convert t t x) (hx : ev E x = some (.slice (some ⟨g, 0, none⟩) n n)) (ht : P.underlying t = some (.slice e1)) (he : P.underlying e1 = some (.int .u8))
    (hk : L[k]? = some (.row (.slice (some ⟨g, 0, none⟩) n n) e 1 n xs))
    (h : TL P N ops Q l ((d, .slice (some ⟨g, 0, none⟩) n n) :: E) (Pm w0 (L.set k (.oth g (.cells xs.toArray e (n, n + 1)))))) : TL P N ops Q (o :: l) E (Pm w0 L) := by
  refine TL.run (α := Unit) (r := fun _ => .slice (some ⟨g, 0, none⟩) n n) (I' := fun _ => Pm w0 (L.set k (.oth g (.cells xs.toArray e (n, n + 1))))) hg hd hN (fun a w ha hw => ?_) (fun _ => h);obtain ⟨h1, h2⟩ := hw.at_ hk;rcases h2 with ⟨e1, _⟩ | ⟨g', cap, cur, a1, hb, hgg, hn, hm, hs1, ht1⟩
  · cases e1
  · cases a1
    have hcur : cur = xs.toArray := by
      rw [<- Array.toList_inj, <- ht1, List.take_of_length_le (by simp; omega)]
    have hsz : cur.size = n := by omega
    rw [<- hcur]
    have hsh : w.shape? g = some (e, n) := by
      unfold World.shape?; rw [hgg];show some (e, cur.size) = some (e, n);rw [hsz]
    have hlt := (Array.getElem?_eq_some_iff.1 hgg).1;refine ⟨(), w.freeze ⟨g, n, none⟩ 1, ?_, hw.turn hk (Kqx w g n) ⟨?_, hb⟩ (fun g' hg' => .inl hg') (fun _ _ e => by cases e)⟩
    · unfold execOp; rw [ho];simp only [ha.eval hx, Sem.run_bind, Sem.run_pure]
      have hc : (convert t t (.slice (some ⟨g, 0, none⟩) n n)).run P w = .ok (.slice (some ⟨g, 0, none⟩) n n) (w.freeze ⟨g, n, none⟩ 1) := by
        simp [convert, run_underlying ht, run_underlying he, markStringish, hsh]
      rw [hc]; rfl
    · unfold World.freeze;rw [if_neg (by decide)];simp [Array.getElem?_modify, hgg]
end
section
variable {P : Program} {N : Fr} {E : Env} {I : World -> Prop}
end
def Kmz (l : List Oper) : Bool := l.all fun o => match o.op with
  | .defer _ => false
  | _ => true
theorem KsM {l : List Oper} (h : Kmz l = true) : ∀ o ∈ l, ∀ c, o.op ≠ .defer c := fun o ho c e => by
  have := List.all_eq_true.1 h o ho;rw [e] at this;cases this
section
variable {P : Program} {Q : Exit -> Act -> World -> Prop}
theorem Kks {lr n : Nat} {ops : Array Oper} (hQ : LetsOut Q -> False) : ∀ (L : List Oper), (∀ o ∈ L, ∀ c, o.op ≠ .defer c) -> ∀ a w, wpList P ops Q L a w -> wpListIn (Fence.wide.inRound lr) n P ops Q L a w
  | [], _, a, w, h => h
  | o :: r, hd, a, w, h => by
    have ih := Kks (lr := lr) (n := n) (ops := ops) hQ r (fun o' ho' => hd o' (List.mem_cons_of_mem _ ho'));unfold wpList at h;unfold wpListIn;by_cases hw : Region.wanted o (yielded ops a.tmps) = true
    · rw [if_pos hw] at h ⊢;rcases h with h | h
      · refine ⟨fun f _ => trivial, ?_⟩;rw [Oper.semAt_eq _ _ _ (hd o List.mem_cons_self)];unfold Oper.wp at h;generalize (execOp a.eval o).run P w = res at h
        cases res with
        | ok x w' =>
          cases x with
          | value v => exact ih _ _ h
          | skip => exact ih _ _ h
          | defer d => exact ih _ _ h
          | enter f args =>
            refine ⟨fun h => (by cases h), CallsIn.inRound lr (callsIn_wide.2 (Calls.mono h fun e w'' q => ?_))⟩
            cases e with
            | returned v => exact ih _ _ q
            | panicked c => exact q
            | outgrown => exact q
          | row row args =>
            exact ⟨fun h => (by cases h), fun c cs hr => by
              obtain ⟨v, w'', q, st⟩ := h c cs;exact ⟨v, w'', ih _ _ q, stepsIn_wide.2 st⟩⟩
          | round => exact h.elim
          | _ => exact h.elim
        | halt x w' =>
          cases x with
          | panic v => exact h
          | _ => exact h.elim
      · exact (hQ h.2).elim
    · rw [if_neg hw] at h ⊢;exact ⟨fun f _ => trivial, ih _ _ h⟩
def TR (P : Program) (N : Fr) (lr n : Nat) (Q : Exit -> Act -> World -> Prop) (c : Code) (E : Env) (I : World -> Prop) : Prop := ∀ a w, EnvOk N E a -> I w -> c.wpIn (Fence.wide.inRound lr) n P Q a w
variable {N : Fr} {E : Env} {I : World -> Prop} {lr n : Nat}
theorem TR.region {id : Nat} {l : List Oper} (hQ : LetsOut Q -> False) (hd : Kmz l = true) (h : TL P N l.toArray Q l E I) : TR P N lr n Q (.region id l.toArray false) E I := fun a w ha hw =>
  wpIn_region_lit (Kks hQ l (KsM hd) a w (h a w ha hw))
theorem TR.block {id : Nat} {c : Code} (h : TR P N lr n (Exit.inBlock id Q) c E I) : TR P N lr n Q (.block id c) E I := fun a w ha hw => wpIn_block (h a w ha hw)
end
section
variable {P : Program} {N : Fr} {E : Env} {Q : Exit -> Act -> World -> Prop} {w0 : Base}
theorem TC.fact {I : World -> Prop} {c : Code} {p : Prop} (hp : ∀ w, I w -> p) (h : p -> TC P N Q c E I) : TC P N Q c E I := fun a w ha hw => h (hp w hw) a w ha hw
theorem Pc.mono {b b' : Nat} {w : World} {p : Pc} (h : p.ok b w) (hb : b' <= b) (hna : p.isAbs = false) : p.ok b' w := by
  cases p with
  | blk g t cs => exact ⟨h.1, Nat.le_trans hb h.2⟩
  | row v e size n xs => exact KjU h hb
  | oth k o => exact ⟨h.1, Nat.le_trans hb h.2⟩
  | abs g p => cases hna
theorem KhG {l : List Pc} (h : K7 l = true) : ∀ p ∈ l, p.isAbs = false := fun p hp => by
  have := List.all_eq_true.1 h p hp
  simpa using this
theorem Pm.addAll {L L' : List Pc} {w w' : World} (h : Pm w0 L w) (h' : Pm w L' w') (hna : K7 L' = true) : Pm w0 (L' ++ L) w' := by
  have h2 := h.below h'.bel;refine ⟨h2.bel, fun p hp => ?_, List.pairwise_append.2 ⟨h'.apart, h.apart, fun p hp q hq g hg hgq => ?_⟩, h2.oth, h.low⟩
  · rcases List.mem_append.1 hp with hp | hp
    · exact Pc.mono (h'.own p hp) h.base (KhG hna p hp)
    · exact h2.own p hp
  · have h1 := (Pc.lt (h'.own p hp) g hg).1;have h3 := (Pc.lt (h.own q hq) g hgq).2;have h4 : w.heap.size <= g := h1;omega
theorem TL.pcallPm {α : Type} {L : List Pc} {ops : Array Oper} {l : List Oper} {o : Oper} {d : Nat} {f : FuncId} {fn : Func} {xs : List Operand} {ts : Array TypeId} {vs : List Value} (r : α -> Value) (Ln : α -> List Pc) (hg : o.guard = none) (hd : o.dst = some d) (hN : Nat.blt d N.n = true)
    (ho : o.op = .call { callee := .value (.func f), args := xs.toArray, argTypes := ts }) (hx : evs E xs = some vs) (hf : P.funcs[f]? = some fn) (hn : (fn.name == "runtime.NumGoroutine") = false) (hb : fn.body.isNone = false)
    (hc : ∀ w, Pm w0 L w -> Calls P f vs.toArray w fun en w' => ∃ x, en = .returned (r x) /\ Pm w (Ln x) w')
    (h : ∀ x, TL P N ops Q l ((d, r x) :: E) (Pm w0 (Ln x ++ L))) (hna : ∀ x, K7 (Ln x) = true := by intro x; rfl) : TL P N ops Q (o :: l) E (Pm w0 L) :=
  TL.call (α := α) (r := r) (I' := fun x => Pm w0 (Ln x ++ L)) hg hd hN ho hx hf hn hb (fun w hw => (hc w hw).mono fun en w' ⟨x, he, h2⟩ => ⟨x, he, hw.addAll h2 (hna x)⟩) h
end
def KaK (cb : Nat) (w : World) : List Pc := (List.range (w.heap.size - (cb + 1))).map fun i => .oth (cb + 1 + i) ((w.heap[cb + 1 + i]?).getD (.deferred none))
theorem KhI {cb k : Nat} {w : World} (h1 : cb < k) (h2 : k < w.heap.size) : ∃ o, w.heap[k]? = some o /\ Pc.oth k o ∈ KaK cb w := by
  refine ⟨w.heap[k], by simp [h2], List.mem_map.2 ⟨k - (cb + 1), List.mem_range.2 (by omega), ?_⟩⟩;rw [show cb + 1 + (k - (cb + 1)) = k by omega];simp [h2]
theorem KfJ {cb : Nat} {w : World} {q : Pc} (h : q ∈ KaK cb w) : ∃ k o, q = .oth k o /\ cb < k /\ w.heap[k]? = some o := by
  obtain ⟨i, hi, rfl⟩ := List.mem_map.1 h;have hi := List.mem_range.1 hi;have hlt : cb + 1 + i < w.heap.size := by omega
  exact ⟨_, _, rfl, by omega, by simp [hlt]⟩
theorem KkA (cb : Nat) (w : World) : (KaK cb w).Pairwise fun p q => ∀ g, p.key = some g -> q.key ≠ some g := by
  refine List.pairwise_map.2 (List.Pairwise.imp (fun hne g hg he => ?_) List.nodup_range);simp only [Pc.key, Option.some.injEq] at hg he;omega
def KhD (cb : Nat) (p : World -> Prop) : Prop := ∀ w1 w2 : World, p w1 -> (∀ k, k < cb \/ k = cb -> w2.heap[k]? = w1.heap[k]?) -> p w2
def KfL (w : World) (g : Nat) : Prop := ∃ o : Obj, w.heap[g]? = some o /\ o.isCells = true
theorem Pm.codes {w : World} {cb : Nat} {p : World -> Prop} (hp : p w) (hc : KfL w cb) (hst : KhD cb p) : Pm ⟨w, cb⟩ (.abs cb p :: KaK cb w) w := by
  have hlt : cb < w.heap.size := by obtain ⟨o, ho, _⟩ := hc; exact (Array.getElem?_eq_some_iff.1 ho).1
  refine ⟨Below.refl _ _, fun q hq => ?_, List.Pairwise.cons (fun q hq g hg he => ?_) (KkA cb w), KeepsOthers.refl w, Nat.le_of_lt hlt⟩
  · rcases List.mem_cons.1 hq with rfl | hq
    · exact ⟨hp, Nat.le_refl _, hc, hst⟩
    · obtain ⟨k, o, rfl, h1, h2⟩ := KfJ hq;exact ⟨h2, Nat.le_of_lt h1⟩
  · obtain ⟨k, o, rfl, h1, h2⟩ := KfJ hq;simp only [Pc.key, Option.some.injEq] at hg he;omega
theorem Pm.kept {w w1 : World} {cb : Nat} {L : List Pc} (h : Pm ⟨w, cb⟩ L w1) (hs : ∀ q ∈ KaK cb w, q ∈ L) : w.grownBy w1 (some cb) := by
  refine ⟨h.bel.os, h.bel.tape, h.bel.output, h.bel.size, fun k hk hne => ?_⟩;rcases Nat.lt_trichotomy k cb with h1 | h1 | h1
  · exact h.bel.block k h1
  · exact absurd (by rw [h1]) hne
  · obtain ⟨o, ho, hm⟩ := KhI h1 hk;exact ((h.own _ (hs _ hm)).1).trans ho.symm
theorem Kn0 {w : World} {b b' : Nat} {e : TypeId} {size n : Nat} {v : Value} {xs : List Value} (h : w.ownsRow b e size v n xs) (hk : ∀ g, v.ownBlock = some g -> b' <= g) : w.ownsRow b' e size v n xs := by
  refine ⟨h.1, ?_⟩;rcases h.2 with h | ⟨g, cap, cur, a, b, r⟩
  · exact .inl h
  · exact .inr ⟨g, cap, cur, a, hk g (by rw [a]; rfl), r⟩
theorem Pc.up {w : World} {b b' : Nat} {q : Pc} (h : q.ok b w) (hk : ∀ g, q.key = some g -> b' <= g) (hna : q.isAbs = false) : q.ok b' w := by
  cases q with
  | blk g t cs => exact ⟨h.1, hk g rfl⟩
  | row v e size n xs => exact Kn0 h hk
  | oth k o => exact ⟨h.1, hk k rfl⟩
  | abs g p => cases hna
structure Codr (p : World -> Prop) (cb : Nat) (w : World) (Ln : List Pc) (w' : World) : Prop where
  cod : p w'
  grown : w.grownBy w' (some cb)
  cells : KfL w' cb
  own : ∀ q ∈ Ln, q.ok w.heap.size w'
  apart : Ln.Pairwise fun p q => ∀ g, p.key = some g -> q.key ≠ some g
theorem Pm.codr {w w1 : World} {cb : Nat} {p : World -> Prop} (Ln : List Pc) (h : Pm ⟨w, cb⟩ (Ln ++ .abs cb p :: KaK cb w) w1) (hna : K7 Ln = true) : Codr p cb w Ln w1 := by
  have ha := List.pairwise_append.1 h.apart;have habs := h.own (.abs cb p) (List.mem_append_right _ List.mem_cons_self);refine ⟨habs.1, h.kept fun q hq => List.mem_append_right _ (List.mem_cons_of_mem _ hq), habs.2.2.1, fun q hq => ?_, ha.1⟩;refine Pc.up (h.own q (List.mem_append_left _ hq)) (fun g hg => ?_) (KhG hna q hq);rcases Nat.lt_or_ge g w.heap.size with h1 | h1
  · exfalso;have hge : cb <= g := (Pc.lt (h.own q (List.mem_append_left _ hq)) g hg).1;rcases Nat.eq_or_lt_of_le hge with h2 | h2
    · subst h2;exact ha.2.2 q hq _ List.mem_cons_self cb hg rfl
    · obtain ⟨o, ho, hm⟩ := KhI h2 h1;exact ha.2.2 q hq _ (List.mem_cons_of_mem _ hm) g hg rfl
  · exact h1
section
variable {P : Program} {N : Fr} {Q : Exit -> Act -> World -> Prop} {E : Env} {w0 : Base} {L : List Pc} {ops : Array Oper} {l : List Oper} {o : Oper}
theorem Pm.cods {w w' : World} {k cb : Nat} {p : World -> Prop} {Ln : List Pc} (h : Pm w0 L w) (hk : L[k]? = some (.abs cb p)) (hc : Codr p cb w Ln w') (hna : K7 Ln = true) : Pm w0 (Ln ++ L) w' := by
  have hp := h.at_ hk;have hcb := (Pc.lt hp cb rfl);have hkeys : ∀ q ∈ L, ∀ g, q.key = some g -> g < w.heap.size := fun q hq g hg => (Pc.lt (h.own q hq) g hg).2
  have hold : ∀ q ∈ L, q.ok w0.b w' := fun q hq => by
    by_cases he : q.key = some cb
    · -- the piece itself
      obtain ⟨i, hi⟩ := List.getElem?_of_mem hq
      have hik : i = k := by
        rcases Nat.lt_trichotomy i k with h1 | h1 | h1
        · exact absurd rfl (List.pairwise_iff_getElem.1 h.apart i k (List.getElem?_eq_some_iff.1 hi).1 (List.getElem?_eq_some_iff.1 hk).1 h1 cb (by rw [(List.getElem?_eq_some_iff.1 hi).2]; exact he) |> fun hh => by rw [(List.getElem?_eq_some_iff.1 hk).2] at hh; exact hh)
        · exact h1
        · exact absurd he (List.pairwise_iff_getElem.1 h.apart k i (List.getElem?_eq_some_iff.1 hk).1 (List.getElem?_eq_some_iff.1 hi).1 h1 cb (by rw [(List.getElem?_eq_some_iff.1 hk).2]; rfl) |> fun hh => by rw [(List.getElem?_eq_some_iff.1 hi).2] at hh; exact hh)
      subst hik;rw [hk] at hi;cases hi;exact ⟨hc.cod, hp.2.1, hc.cells, hp.2.2.2⟩
    · refine Pc.same (h.own q hq) (fun g hg => hc.grown.block g (hkeys q hq g hg) fun e => he (by rw [hg, e])) (fun j hj => hc.grown.block j (Nat.lt_of_lt_of_le hj h.base) fun e => ?_);cases e;have := hcb.1;omega
  refine ⟨h.bel.grown hc.grown h.base (fun j e => by cases e; exact hcb.1), fun q hq => ?_, List.pairwise_append.2 ⟨hc.apart, h.apart, fun q hq r hr g hg hgr => ?_⟩, h.oth.trans (KeepsOthers.of_grownBy hc.grown fun j o hj ho => ?_), h.low⟩
  · rcases List.mem_append.1 hq with hq | hq
    · exact Pc.mono (hc.own q hq) h.base (KhG hna q hq)
    · exact hold q hq
  · have h1 := (Pc.lt (hc.own q hq) g hg).1;have h2 := hkeys r hr g hgr;omega
  · cases hj;obtain ⟨o', h1, h2⟩ := hp.2.2.1;rw [ho] at h1;cases h1;exact h2
theorem TL.pcallCod {α : Type} {k cb d : Nat} {p : World -> Prop} {f : FuncId} {fn : Func} {xs : List Operand} {ts : Array TypeId} {vs : List Value} (r : α -> Value) (Ln : α -> List Pc) (hg : o.guard = none) (hd : o.dst = some d) (hN : Nat.blt d N.n = true)
    (ho : o.op = .call { callee := .value (.func f), args := xs.toArray, argTypes := ts }) (hx : evs E xs = some vs) (hf : P.funcs[f]? = some fn) (hn : (fn.name == "runtime.NumGoroutine") = false) (hb : fn.body.isNone = false)
    (hk : L[k]? = some (.abs cb p)) (hc : ∀ w, Pm w0 L w -> p w -> Calls P f vs.toArray w fun en w' => ∃ x, en = .returned (r x) /\ Codr p cb w (Ln x) w')
    (h : ∀ x, TL P N ops Q l ((d, r x) :: E) (Pm w0 (Ln x ++ L))) (hna : ∀ x, K7 (Ln x) = true := by intro x; rfl) : TL P N ops Q (o :: l) E (Pm w0 L) :=
  TL.call (α := α) (r := r) (I' := fun x => Pm w0 (Ln x ++ L)) hg hd hN ho hx hf hn hb (fun w hw => (hc w hw (hw.at_ hk).1).mono fun en w' ⟨x, he, h2⟩ => ⟨x, he, hw.cods hk h2 (hna x)⟩) h
theorem TL.callNew {d : Nat} {I : World -> Prop} {p : Nat -> World -> Prop} {f : FuncId} {fn : Func} {xs : List Operand} {ts : Array TypeId} {vs : List Value} (hg : o.guard = none) (hd : o.dst = some d) (hN : Nat.blt d N.n = true)
    (ho : o.op = .call { callee := .value (.func f), args := xs.toArray, argTypes := ts }) (hx : evs E xs = some vs) (hf : P.funcs[f]? = some fn) (hn : (fn.name == "runtime.NumGoroutine") = false) (hb : fn.body.isNone = false)
    (hc : ∀ w, I w -> Calls P f vs.toArray w fun en w' => en = .returned (.pointer (some ⟨w.heap.size, 0, none⟩)) /\ p w.heap.size w' /\ KfL w' w.heap.size /\ Below w.heap.size w w') (hst : ∀ cb, KhD cb (p cb))
    (h : ∀ w1, I w1 -> TL P N ops Q l ((d, .pointer (some ⟨w1.heap.size, 0, none⟩)) :: E) (Pm w1 [.abs w1.heap.size (p w1.heap.size)])) : TL P N ops Q (o :: l) E I := fun a w ha hw =>
  wpList_plain hg fun K hK => by
    unfold Oper.wp;rw [KeI ha ho hx hf hn hb, Oper.upon_enter];refine (hc w hw).mono ?_;rintro e w' ⟨rfl, hp, hcl, hbel⟩;show K (a.put o.dst _) w';rw [hd];refine hK _ _ (h w hw _ _ (ha.put d _ (by simpa [Nat.blt_eq] using hN)) ⟨hbel, fun q hq => ?_, List.pairwise_singleton _ _, Km8 hbel, Nat.le_refl _⟩);rcases List.mem_singleton.1 hq with rfl;exact ⟨hp, Nat.le_refl _, hcl, hst _⟩
theorem KtM {t : TypeId} {x lo : Operand} {vx vl v : Value} {I : World -> Prop} (ho : o.op = .slice t x (some lo) none none) (hx : ev E x = some vx) (hl : ev E lo = some vl) (hv : ∀ w : World, (Instr.sliceAt t vx (some vl) none none).run P w = .ok v w) : Kv P N o E I v := fun a w ha _ => by
  unfold execOp; rw [ho];simp only [Option.map_some, Option.map_none, ha.eval hx, ha.eval hl, Sem.run_bind, hv, Result.andThen_ok, Sem.run_pure]
theorem KpR {t : TypeId} {size : Nat} (ht : P.underlying t = some (.slice (P.elem t))) (hs : ∀ w : World, (sizeOf (P.elem t)).run P w = .ok size w) (A : Option Addr) (n c lo : Nat) {k : IntKind} {a : Int} (ha : a = (lo : Int)) (h : lo <= n) (w : World) :
    (Instr.sliceAt t (.slice A n c) (some (.int k a)) none none).run P w = .ok (.slice (if c = lo then A else A.map (·.add (lo * size))) (n - lo) (c - lo)) w := by
  subst ha;rw [run_sliceAt_slice w t _ _ _ _ ht, run_slice_l w t A n c ht k lo (by omega) (by omega)];simp only [hs, Result.andThen, sliced, Int.toNat_natCast]
end
structure Chg (g : Nat) (t : TypeId) (cs : List Value) (w : World) (Ln : List Pc) (w' : World) : Prop where
  blk : Blk w' g t cs.toArray
  grown : w.grownBy w' (some g)
  own : ∀ q ∈ Ln, q.ok w.heap.size w'
  apart : Ln.Pairwise fun p q => ∀ g, p.key = some g -> q.key ≠ some g
section
variable {P : Program} {N : Fr} {Q : Exit -> Act -> World -> Prop} {E : Env} {w0 : Base} {L : List Pc} {ops : Array Oper} {l : List Oper} {o : Oper}
end
section
variable {P : Program} {N : Fr} {Q : Exit -> Act -> World -> Prop} {E : Env} {w0 : Base} {L : List Pc} {ops : Array Oper} {l : List Oper} {o : Oper} {I : World -> Prop}
theorem TL.fact {p : Prop} (hp : ∀ w, I w -> p) (h : p -> TL P N ops Q l E I) : TL P N ops Q l E I := fun a w ha hw => h (hp w hw) a w ha hw
theorem Kch {x : Operand} {i : Nat} {vs : Array Value} {v : Value} (ho : o.op = .extract x i) (hx : ev E x = some (.tuple vs)) (hv : vs[i]? = some v) : Kv P N o E I v := fun a w ha _ => by
  unfold execOp; rw [ho];simp [ha.eval hx, Instr.extract, hv]
theorem K2 {fn : Func} {t u : Tmp} {v1 v2 : Value} {R : Ending -> World -> Prop} (hr : fn.results = #[.tmp t, .tmp u]) (h1 : look E t = some v1) (h2 : look E u = some v2) (hR : ∀ w, I w -> R (.returned (.tuple #[v1, v2])) w) (hD : N.ds = [] := by rfl) : TX N (bodyPost P fn R) .ret E I := fun a w ha hw =>
  ⟨ha.defers.trans hD, .tuple #[v1, v2], by rw [results_tmp2 hr]; have e1 := ha.slot t _ h1; have e2 := ha.slot u _ h2; simp [e1, e2], hR w hw⟩
variable {xt : TypeId} {k : IntKind} {m n : Int}
theorem Kj6 (h : m < n) (w : World) : (binOp .lss xt (.int k m) (.int k n)).run P w = .ok (.bool true) w := by rw [Kr, decide_eq_true h]
theorem KdN (h : m = n) (w : World) : (binOp .eql xt (.int k m) (.int k n)).run P w = .ok (.bool true) w := by rw [KK, decide_eq_true h]
theorem KaV (h : m = n) (w : World) : (binOp .neq xt (.int k m) (.int k n)).run P w = .ok (.bool false) w := by rw [Kau, decide_eq_false (by simpa using h)]
theorem Kk2 (h0 : 0 <= m) (h1 : 0 < n) (w : World) : (binOp .rem xt (.int k m) (.int k n)).run P w = .ok (.int k (m % n)) w := by
  have hz : n ≠ 0 := by omega
  have := Int.tmod_eq_emod_of_nonneg (a := m) (b := n) h0;simp [binOp, go_sem, Op.intDiv, hz, this]
theorem TL.vsplit {d : Nat} {b : Bool} (hg : o.guard = none) (hd : o.dst = some d) (hN : Nat.blt d N.n = true) (hv : Kv P N o E I (.bool b)) (ht : b = true -> TL P N ops Q l ((d, .bool true) :: E) I) (hf : b = false -> TL P N ops Q l ((d, .bool false) :: E) I) : TL P N ops Q (o :: l) E I := by
  cases b with
  | true => exact TL.val hg hd hN hv (ht rfl)
  | false => exact TL.val hg hd hN hv (hf rfl)
theorem TL.callsplit {d : Nat} {b : Bool} {f : FuncId} {fn : Func} {xs : List Operand} {ts : Array TypeId} {vs : List Value} (hg : o.guard = none) (hd : o.dst = some d) (hN : Nat.blt d N.n = true)
    (ho : o.op = .call { callee := .value (.func f), args := xs.toArray, argTypes := ts }) (hx : evs E xs = some vs) (hf : P.funcs[f]? = some fn) (hn : (fn.name == "runtime.NumGoroutine") = false) (hb : fn.body.isNone = false)
    (hc : ∀ w, Pm w0 L w -> Calls P f vs.toArray w fun e w' => e = .returned (.bool b) /\ Below w.heap.size w w') (ht : b = true -> TL P N ops Q l ((d, .bool true) :: E) (Pm w0 L)) (hf' : b = false -> TL P N ops Q l ((d, .bool false) :: E) (Pm w0 L)) : TL P N ops Q (o :: l) E (Pm w0 L) := by
  cases b with
  | true => exact TL.pcall1 hg hd hN ho hx hf hn hb hc (ht rfl)
  | false => exact TL.pcall1 hg hd hN ho hx hf hn hb hc (hf' rfl)
theorem TC.condT {c : Operand} {x y : Code} (hc : ev E c = some (.bool true)) (h : TC P N Q x E I) : TC P N Q (.cond c x y) E I := TC.split hc (fun _ => h) (fun e => by cases e)
theorem TC.condF {c : Operand} {x y : Code} (hc : ev E c = some (.bool false)) (h : TC P N Q y E I) : TC P N Q (.cond c x y) E I := TC.split hc (fun e => by cases e) (fun _ => h)
theorem Kka {p : Prop} [Decidable p] (h : p) : Ending.returned (.bool true) = .returned (.bool (decide p)) := by rw [decide_eq_true h]
theorem Kfu {p : Prop} [Decidable p] (h : ¬ p) : Ending.returned (.bool false) = .returned (.bool (decide p)) := by rw [decide_eq_false h]
theorem Krv {t : TypeId} {x : Operand} {i g off : Nat} {v : Value} (ho : o.op = .fieldAddr t x i) (hx : ev E x = some (.pointer (some ⟨g, off, none⟩))) (hv : ∀ w : World, (Instr.fieldAt t (.pointer (some ⟨g, off, none⟩)) i).run P w = .ok v w) : Kv P N o E I v := fun a w ha _ => by
  unfold execOp; rw [ho];simp only [ha.eval hx, Sem.run_bind, hv, Result.andThen_ok, Sem.run_pure]
end
theorem Pm.neq {w0 : Base} {w : World} {L : List Pc} {i j : Nat} {p q : Pc} (h : Pm w0 L w) (hi : L[i]? = some p) (hj : L[j]? = some q) (hij : i ≠ j) : ∀ g, p.key = some g -> q.key ≠ some g := by
  intro g hp hq;obtain ⟨hi1, hi2⟩ := List.getElem?_eq_some_iff.1 hi;obtain ⟨hj1, hj2⟩ := List.getElem?_eq_some_iff.1 hj;rcases Nat.lt_or_gt_of_ne hij with h1 | h1
  · exact List.pairwise_iff_getElem.1 h.apart i j hi1 hj1 h1 g (by rw [hi2]; exact hp) (by rw [hj2]; exact hq)
  · exact List.pairwise_iff_getElem.1 h.apart j i hj1 hi1 h1 g (by rw [hj2]; exact hq) (by rw [hi2]; exact hp)
theorem Pm.pick {w0 : Base} {w : World} {L L' : List Pc} (h : Pm w0 L w) (ks : List Nat) (hn : ks.Nodup) (he : ks.map (fun k => L[k]?) = L'.map some) : Pm w0 L' w := by
  have key : ∀ (i : Nat) (p : Pc), L'[i]? = some p -> ∃ k, ks[i]? = some k /\ L[k]? = some p := by
    intro i p hi;have e := congrArg (fun l => l[i]?) he;simp only [List.getElem?_map, hi, Option.map_some] at e
    cases hk : ks[i]? with
    | none => rw [hk] at e; simp at e
    | some k => rw [hk] at e; simp only [Option.map_some, Option.some.injEq] at e; exact ⟨k, rfl, e⟩
  refine ⟨h.bel, fun p hp => ?_, ?_, h.oth, h.low⟩
  · obtain ⟨i, hi⟩ := List.getElem?_of_mem hp;obtain ⟨k, _, hk⟩ := key i p hi;exact h.own p (List.mem_of_getElem? hk)
  · refine List.pairwise_iff_getElem.2 fun i j hi hj hij => ?_;obtain ⟨a, ha, hpa⟩ := key i _ (List.getElem?_eq_getElem hi);obtain ⟨b, hb, hpb⟩ := key j _ (List.getElem?_eq_getElem hj);refine h.neq hpa hpb fun e => ?_;subst e;obtain ⟨ha1, ha2⟩ := List.getElem?_eq_some_iff.1 ha;obtain ⟨hb1, hb2⟩ := List.getElem?_eq_some_iff.1 hb;have := (List.pairwise_iff_getElem.1 hn) i j ha1 hb1 hij;rw [ha2, hb2] at this;exact this rfl
section
variable {P : Program} {N : Fr} {Q : Exit -> Act -> World -> Prop} {E : Env} {w0 : Base} {L : List Pc} {ops : Array Oper} {l : List Oper} {o : Oper}
theorem TL.prowS {d : Nat} {t e : TypeId} {n size : Nat} {xs : List (Nat × Operand)} {vs : List (Nat × Value)} {cs : List Value} (hg : o.guard = none) (hd : o.dst = some d) (hN : Nat.blt d N.n = true)
    (ho : o.op = .buildSlice t n xs.toArray) (hx : evp E xs = some vs) (hr : ∀ w : World, (Instr.buildSlice t n vs.toArray).run P w = .ok (.slice (some ⟨w.heap.size, 0, none⟩) n n) (w.alloc (.cells cs.toArray e))) (hn : n <= maxLen) (hc : cs.length = n * size)
    (h : ∀ g, TL P N ops Q l ((d, .slice (some ⟨g, 0, none⟩) n n) :: E) (Pm w0 (.row (.slice (some ⟨g, 0, none⟩) n n) e size n cs :: L))) : TL P N ops Q (o :: l) E (Pm w0 L) :=
  TL.run (α := Nat) (r := fun g => .slice (some ⟨g, 0, none⟩) n n) (I' := fun g => Pm w0 (.row (.slice (some ⟨g, 0, none⟩) n n) e size n cs :: L)) hg hd hN (fun a w ha hw => by
    refine ⟨w.heap.size, w.alloc (.cells cs.toArray e), ?_, hw.add ((Below.refl _ _).alloc (Nat.le_refl _) _) ⟨hc, .inr ⟨w.heap.size, n, cs.toArray, rfl, Nat.le_refl _, heap_alloc_new w _, Nat.le_refl _, hn, by simpa using hc, ?_⟩⟩⟩
    · unfold execOp; rw [ho];simp only [ha.evalps hx, Sem.run_bind, hr, Result.andThen_ok, Sem.run_pure, List.map_toArray]
    · simp [<- hc]) h
theorem TL.stcall {d : Nat} {I : World -> Prop} {f : FuncId} {fn : Func} {xs : List Operand} {ts : Array TypeId} {vs : List Value} {r : Value} (hg : o.guard = none) (hd : o.dst = some d) (hN : Nat.blt d N.n = true)
    (ho : o.op = .call { callee := .value (.func f), args := xs.toArray, argTypes := ts }) (hx : evs E xs = some vs) (hf : P.funcs[f]? = some fn) (hn : (fn.name == "runtime.NumGoroutine") = false) (hb : fn.body.isNone = false)
    (hc : ∀ w, I w -> Calls P f vs.toArray w fun e w' => e = .returned r /\ w' = w) (h : TL P N ops Q l ((d, r) :: E) I) : TL P N ops Q (o :: l) E I :=
  TL.call (α := Unit) (r := fun _ => r) (I' := fun _ => I) hg hd hN ho hx hf hn hb (fun w hw => (hc w hw).mono fun e w' ⟨he, hb⟩ => ⟨(), he, hb ▸ hw⟩) (fun _ => h)
theorem TS.call {d : Nat} {I : World -> Prop} {R : Act -> World -> Prop} {f : FuncId} {fn : Func} {xs : List Operand} {ts : Array TypeId} {vs : List Value} {r : Value} (hg : o.guard = none) (hd : o.dst = some d) (hN : Nat.blt d N.n = true)
    (ho : o.op = .call { callee := .value (.func f), args := xs.toArray, argTypes := ts }) (hx : evs E xs = some vs) (hf : P.funcs[f]? = some fn) (hn : (fn.name == "runtime.NumGoroutine") = false) (hb : fn.body.isNone = false)
    (hc : ∀ w, I w -> Calls P f vs.toArray w fun e w' => e = .returned r /\ w' = w) (h : TS P N ops R l ((d, r) :: E) I) : TS P N ops R (o :: l) E I := fun a w ha hw => by
  unfold wpStill;rw [if_pos (by simp [Region.wanted, hg])];unfold Oper.still;rw [KeI ha ho hx hf hn hb];refine ⟨rfl, r, hc w hw, ?_⟩;rw [hd];exact h _ _ (ha.put d r (by simpa [Nat.blt_eq] using hN)) hw
theorem KbY {fn : Func} {p u : Tmp} {t te : TypeId} {g k : Nat} {cs : List Value} {v : Value} {d : TypeDesc} {R : Ending -> World -> Prop} (hr : fn.results = #[.cell p t, .tmp u]) (hp : look E p = some (.pointer (some ⟨g, 0, none⟩))) (hv : look E u = some v) (hk : L[k]? = some (.blk g te cs))
    (hu : P.underlying t = some d) (hd : (match d with | .struct _ | .array _ _ => true | _ => false) = true) (hi : (P.info? t).map (·.size) = some cs.length) (hR : ∀ w, Pm w0 L w -> R (.returned (.tuple #[.agg cs.toArray, v])) w) (hD : N.ds = [] := by rfl) :
    TX N (bodyPost P fn R) .ret E (Pm w0 L) := fun a w ha hw =>
  ⟨ha.defers.trans hD, .tuple #[.agg cs.toArray, v], by
    have e1 := ha.slot p _ hp;have e2 := ha.slot u _ hv;simp [results, hr, e1, e2, asAddr, run_loadVar_row w g te t cs.toArray (0, 0) d (hw.at_ hk).1 hu hd (by simpa using hi)], hR w hw⟩
theorem KiU {fn : Func} {p u u2 : Tmp} {t te : TypeId} {g k : Nat} {cs : List Value} {v v2 : Value} {d : TypeDesc} {R : Ending -> World -> Prop} (hr : fn.results = #[.cell p t, .tmp u, .tmp u2]) (hp : look E p = some (.pointer (some ⟨g, 0, none⟩))) (hv : look E u = some v) (hv2 : look E u2 = some v2) (hk : L[k]? = some (.blk g te cs))
    (hu : P.underlying t = some d) (hd : (match d with | .struct _ | .array _ _ => true | _ => false) = true) (hi : (P.info? t).map (·.size) = some cs.length) (hR : ∀ w, Pm w0 L w -> R (.returned (.tuple #[.agg cs.toArray, v, v2])) w) (hD : N.ds = [] := by rfl) :
    TX N (bodyPost P fn R) .ret E (Pm w0 L) := fun a w ha hw =>
  ⟨ha.defers.trans hD, .tuple #[.agg cs.toArray, v, v2], by
    have e1 := ha.slot p _ hp;have e2 := ha.slot u _ hv;have e3 := ha.slot u2 _ hv2;simp [results, hr, e1, e2, e3, asAddr, run_loadVar_row w g te t cs.toArray (0, 0) d (hw.at_ hk).1 hu hd (by simpa using hi)], hR w hw⟩
end
theorem Ko2 (a : Addr) : a.add 0 = a := by cases a; simp [Addr.add]
section
variable {P : Program} {N : Fr} {E : Env} {o : Oper}
theorem KgH {t : TypeId} {size : Nat} (ht : P.underlying t = some (.slice (P.elem t))) (hs : ∀ w : World, (sizeOf (P.elem t)).run P w = .ok size w) (A : Option Addr) (n c hi : Nat) {k : IntKind} {a : Int} (ha : a = (hi : Int)) (h : hi <= c) (w : World) :
    (Instr.sliceAt t (.slice A n c) none (some (.int k a)) none).run P w = .ok (.slice A hi c) w := by
  subst ha;rw [run_sliceAt_slice w t _ _ _ _ ht, run_slice_h w t A n c ht k hi (by omega) (by omega)];simp only [hs, Result.andThen, sliced, Int.toNat_natCast, Nat.zero_mul, Nat.sub_zero]
  congr 2
  cases A with
  | none => simp
  | some a => simp [Ko2]
theorem Kh8 {t : TypeId} {x hi : Operand} {vx vh v : Value} {I : World -> Prop} (ho : o.op = .slice t x none (some hi) none) (hx : ev E x = some vx) (hh : ev E hi = some vh) (hv : ∀ w : World, (Instr.sliceAt t vx none (some vh) none).run P w = .ok v w) : Kv P N o E I v := fun a w ha _ => by
  unfold execOp; rw [ho];simp only [Option.map_some, Option.map_none, ha.eval hx, ha.eval hh, Sem.run_bind, hv, Result.andThen_ok, Sem.run_pure]
end
section
variable {P : Program} {ops : Array Oper} {S : World -> Prop} {Q : Exit -> Act -> World -> Prop}
def Kbw (P : Program) (ops : Array Oper) (S : World -> Prop) (o : Oper) (v : Value) (a : Act) : Prop :=
  Region.wanted o (yielded ops a.tmps) = true /\ ∀ w, S w -> ∃ f args, (execOp a.eval o).run P w = .ok (.enter f args) w /\ Calls P f args w fun e w' => e = .returned v /\ w' = w
theorem Kbw.go {i : Nat} {o : Oper} {v : Value} {a : Act} {K : Act -> World -> Prop} {w : World} (h : Kbw P ops S o v a) (hi : ops[i]? = some o) (hS : S w) (hK : K (a.put o.dst v) w) : wpOp P ops Q i K a w := by
  obtain ⟨h1, h2⟩ := h;obtain ⟨f, args, he, hc⟩ := h2 w hS;unfold wpOp;rw [hi];simp only [h1, if_true]
  left
  unfold Oper.wp;rw [he];simp only [Oper.upon];refine hc.mono ?_;rintro e w' ⟨rfl, rfl⟩;exact hK
theorem Kbw.like {o : Oper} {v : Value} {a b : Act} (h : Kbw P ops S o v a) (he : execOp b.eval o = execOp a.eval o) (hw : Region.wanted o (yielded ops b.tmps) = Region.wanted o (yielded ops a.tmps)) : Kbw P ops S o v b :=
  ⟨hw.trans h.1, fun w hS => by rw [he]; exact h.2 w hS⟩
theorem Kbw.across {j : Nat} {o oj : Oper} {v : Value} {a : Act} {K : Act -> World -> Prop} {w : World} (hy : Kbw P ops S o v a) (hj : ops[j]? = some oj) (hap : o.apart ops oj = true) (hs : ∀ cs b, o.op ≠ .select cs b) (hsj : ∀ cs b, oj.op ≠ .select cs b)
    (h : wpOp P ops (NoPanic Q) j K (a.put o.dst v) w) : wpOp P ops (NoPanic Q) j (fun b w' => Kbw P ops S o v b /\ K (b.put o.dst v) w') a w := by
  obtain ⟨p1, p2, p3⟩ := Oper.apart_spec hap;have stay : ∀ (b : Act) (u : Value), Kbw P ops S o v b -> Kbw P ops S o v (b.put oj.dst u) := fun b u hb => hb.like (execOp_put o hs b oj.dst u p3) (wanted_put o b oj.dst u p3);have swap : ∀ (b : Act) (u : Value), (b.put oj.dst u).put o.dst v = (b.put o.dst v).put oj.dst u := fun b u => (Act.put_comm b v u p2).symm;unfold wpOp at h ⊢;rw [hj] at h ⊢;dsimp only at h ⊢;rw [wanted_put oj a o.dst v p1] at h;by_cases hw : Region.wanted oj (yielded ops a.tmps) = true
  · rw [if_pos hw] at h ⊢;rcases h with h | ⟨k1, k2⟩
    · left
      unfold Oper.wp at h ⊢;rw [execOp_put oj hsj a o.dst v p1] at h
      cases hr : (execOp a.eval oj).run P w with
      | halt x w' =>
        rw [hr] at h;cases x <;> simp only [Oper.upon] at h ⊢
        case panic u => exact h
      | ok n w' =>
        rw [hr] at h;cases n <;> simp only [Oper.upon] at h ⊢
        case value u => exact ⟨stay a u hy, by rw [swap]; exact h⟩
        case skip => exact ⟨stay a _ hy, by rw [swap]; exact h⟩
        case defer d =>
          refine ⟨stay _ _ (hy.like (b := { a with defers := d :: a.defers }) rfl rfl), ?_⟩;rw [swap, <- Act.put_defers];exact h
        case enter f args =>
          refine Calls.mono h fun e w2 he => ?_
          cases e with
          | returned u => exact ⟨stay a u hy, by rw [swap]; exact he⟩
          | panicked c => exact he
          | outgrown => exact he
        case row r args => exact Rows.mono h fun u w2 he => ⟨stay a u hy, by rw [swap]; exact he⟩
    · right
      refine ⟨?_, k2⟩;unfold Oper.asks at k1 ⊢;rw [execOp_put oj hsj a o.dst v p1] at k1;exact k1
  · rw [if_neg hw] at h ⊢;exact ⟨stay a _ hy, by rw [swap]; exact h⟩
theorem Ktt {i : Nat} {o : Oper} {v : Value} (hi : ops[i]? = some o) (hsel : ∀ (j : Nat) (o : Oper) cs b, ops[j]? = some o -> o.op ≠ .select cs b) : ∀ (f : Nat) (listed : Array Bool) (a : Act) (w : World),
    (∀ j oj, ops[j]? = some oj -> j ≠ i -> listed.getD j true = false -> (∀ e ∈ oj.after, Region.binds .any e = true -> e.on ≠ i) -> o.apart ops oj = true) -> i ∈ Region.ready .any ops listed -> Kbw P ops S o v a -> S w ->
    wpAnyH P .any ops (NoPanic Q) S f (listed.setIfInBounds i true) (a.put o.dst v) w -> wpAnyH P .any ops (NoPanic Q) S (f + 1) listed a w := by
  intro f
  induction f with
  | zero =>
    intro listed a w _ hr hy hS H;refine ⟨fun h0 => (by rw [h0] at hr; cases hr), fun j hj => ?_⟩;rcases Decidable.em (j = i) with e | e
    · exact e ▸ hy.go hi hS ⟨hS, H⟩
    · have h1 := ready_mono hj e;rw [H.1] at h1;cases h1
  | succ f ih =>
    intro listed a w hfree hr hy hS H;refine ⟨fun h0 => (by rw [h0] at hr; cases hr), fun j hj => ?_⟩;rcases Decidable.em (j = i) with e | e
    · exact e ▸ hy.go hi hS ⟨hS, H⟩
    · obtain ⟨hun, oj, hoj, hall⟩ := mem_ready.1 hj
      have hno : ∀ e ∈ oj.after, Region.binds .any e = true -> e.on ≠ i := by
        intro e he hb hon;have h1 := hall e he hb;have h0 := (mem_ready.1 hr).1;rw [hon] at h1;rcases Nat.lt_or_ge i listed.size with hlt | hge
        · simp [hlt] at h0 h1;rw [h0] at h1;cases h1
        · simp [Array.getElem?_eq_none hge] at h1
      have h2 := hy.across hoj (hfree j oj hoj e hun hno) (fun cs b => hsel i o cs b hi) (fun cs b => hsel j oj cs b hoj) (H.2 j (ready_mono hj e));refine wpOp_mono (fun b w' h3 => ⟨h3.2.1, ih _ b w' (fun k ok hk hki hkl hkn => hfree k ok hk hki ?_ hkn) (ready_mono hr (Ne.symm e)) h3.1 h3.2.1 ?_⟩) h2
      · rcases Decidable.em (j = k) with e2 | e2
        · exact e2 ▸ hun
        · rwa [getD_set_ne true e2] at hkl
      · rw [Array.setIfInBounds_comm _ _ e];exact h3.2.2
end
section
variable {P : Program} {N : Fr} {Q : Exit -> Act -> World -> Prop} {E : Env} {I S : World -> Prop} {ops : Array Oper} {f : Nat} {listed : Array Bool}
theorem TH.takeC {o : Oper} {d : Nat} {r : Value} {g : FuncId} {fn : Func} {xs : List Operand} {ts : Array TypeId} {vs : List Value} {listed' : Array Bool} (i : Nat) (hi : ops[i]? = some o) (hs : Region.noSelect ops = true) (hf : Region.free .any ops listed i = true) (hr : (Region.ready .any ops listed).contains i = true) (hl : listed.setIfInBounds i true = listed')
    (hg : o.guard = none) (hd : o.dst = some d) (hN : Nat.blt d N.n = true) (ho : o.op = .call { callee := .value (.func g), args := xs.toArray, argTypes := ts }) (hx : evs E xs = some vs) (hfn : P.funcs[g]? = some fn) (hn : (fn.name == "runtime.NumGoroutine") = false) (hb : fn.body.isNone = false)
    (hc : ∀ w, S w -> Calls P g vs.toArray w fun e w' => e = .returned r /\ w' = w) (hS : ∀ w, I w -> S w)
    (h : TH P N ops S Q f listed' ((d, r) :: E) I) : TH P N ops S Q (f + 1) listed E I := fun a w ha hw => by
  subst hl;refine Ktt hi (Region.noSelect_spec hs) f listed a w (Region.free_spec hi hf) (by simpa using hr) (v := r) ⟨by simp [Region.wanted, hg], fun w' hw' => ⟨g, vs.toArray, KeI ha ho hx hfn hn hb, hc w' hw'⟩⟩ (hS w hw) ?_;exact h (a.put o.dst r) w (hd ▸ ha.put d r (by simpa [Nat.blt_eq] using hN)) hw
theorem Kij {o : Oper} {i : Nat} {K : Act -> World -> Prop} {a : Act} {w : World} (hi : ops[i]? = some o) (h : wpList P ops (Exit.then K (NoPanic Q)) [o] a w) : wpOp P ops (NoPanic Q) i K a w := by
  unfold wpOp;rw [hi];unfold wpList at h;dsimp only;by_cases hw : Region.wanted o (yielded ops a.tmps) = true
  · simp only [hw, if_true] at h ⊢;rcases h with h | ⟨h1, h2⟩
    · left
      unfold Oper.wp at h ⊢;generalize (execOp a.eval o).run P w = r at *
      cases r with
      | ok n w' => cases n <;> exact h
      | halt x w' => cases x <;> exact h
    · exact .inr ⟨h1, h2⟩
  · rw [if_neg hw] at h ⊢;exact h
theorem TH.only' {o : Oper} {listed' : Array Bool} (i : Nat) (hi : ops[i]? = some o) (hr : Region.ready .any ops listed = [i]) (hl : listed.setIfInBounds i true = listed')
    (h : TL P N ops (Exit.then (Hd P ops S Q f listed') (NoPanic Q)) [o] E I) : TH P N ops S Q (f + 1) listed E I := fun a w ha hw => by
  subst hl;refine wpAnyH_all hr (by simp) fun j hj => ?_;have : j = i := by simpa using hj
  subst this;exact Kij hi (h a w ha hw)
theorem TH.two' {o o' : Oper} {listed1 listed2 : Array Bool} (i j : Nat) (hi : ops[i]? = some o) (hj : ops[j]? = some o') (hr : Region.ready .any ops listed = [i, j]) (hl1 : listed.setIfInBounds i true = listed1) (hl2 : listed.setIfInBounds j true = listed2)
    (h : TL P N ops (Exit.then (Hd P ops S Q f listed1) (NoPanic Q)) [o] E I) (h' : TL P N ops (Exit.then (Hd P ops S Q f listed2) (NoPanic Q)) [o'] E I) : TH P N ops S Q (f + 1) listed E I := fun a w ha hw => by
  subst hl1 hl2;refine wpAnyH_all hr (by simp) fun k hk => ?_;have : k = i \/ k = j := by simpa using hk
  rcases this with rfl | rfl
  · exact Kij hi (h a w ha hw)
  · exact Kij hj (h' a w ha hw)
theorem TH.takeG {o : Oper} {d j dg : Nat} {b : Bool} {v : Value} {listed' : Array Bool} (i : Nat) (hi : ops[i]? = some o) (hs : Region.noSelect ops = true) (hf : Region.free .any ops listed i = true) (hr : (Region.ready .any ops listed).contains i = true) (hl : listed.setIfInBounds i true = listed')
    (hg : o.guard = some (j, b)) (hgd : (ops[j]?).bind (·.dst) = some dg) (hgE : look E dg = some (.bool b)) (hd : o.dst = some d) (hN : Nat.blt d N.n = true) (hv : Kv P N o E S v) (hS : ∀ w, I w -> S w)
    (h : TH P N ops S Q f listed' ((d, v) :: E) I) : TH P N ops S Q (f + 1) listed E I := fun a w ha hw => by
  subst hl;refine wpAnyH_take hi hs hf hr (fun c a w h => h) (v := v) (.inl ⟨by rw [Kdu ha hg hgd hgE]; simp, fun w' hw' => hv a w' ha hw'⟩) (hS w hw) ?_;exact h (a.put o.dst v) w (hd ▸ ha.put d v (by simpa [Nat.blt_eq] using hN)) hw
theorem TH.off {o : Oper} {d j dg : Nat} {b b' : Bool} {listed' : Array Bool} (i : Nat) (hi : ops[i]? = some o) (hs : Region.noSelect ops = true) (hf : Region.free .any ops listed i = true) (hr : (Region.ready .any ops listed).contains i = true) (hl : listed.setIfInBounds i true = listed')
    (hg : o.guard = some (j, b')) (hgd : (ops[j]?).bind (·.dst) = some dg) (hgE : look E dg = some (.bool b)) (hne : (b == b') = false) (hd : o.dst = some d) (hN : Nat.blt d N.n = true) (hS : ∀ w, I w -> S w)
    (h : TH P N ops S Q f listed' ((d, undef) :: E) I) : TH P N ops S Q (f + 1) listed E I := fun a w ha hw => by
  subst hl;refine wpAnyH_take hi hs hf hr (fun c a w h => h) (v := undef) (.inr ⟨by rw [Kdu ha hg hgd hgE, hne], rfl⟩) (hS w hw) ?_;exact h (a.put o.dst undef) w (hd ▸ ha.put d undef (by simpa [Nat.blt_eq] using hN)) hw
theorem TH.offU {o : Oper} {d j dg : Nat} {b' : Bool} {listed' : Array Bool} (i : Nat) (hi : ops[i]? = some o) (hs : Region.noSelect ops = true) (hf : Region.free .any ops listed i = true) (hr : (Region.ready .any ops listed).contains i = true) (hl : listed.setIfInBounds i true = listed')
    (hg : o.guard = some (j, b')) (hgd : (ops[j]?).bind (·.dst) = some dg) (hgE : look E dg = some undef) (hd : o.dst = some d) (hN : Nat.blt d N.n = true) (hS : ∀ w, I w -> S w)
    (h : TH P N ops S Q f listed' ((d, undef) :: E) I) : TH P N ops S Q (f + 1) listed E I := fun a w ha hw => by
  subst hl
  have h1 : yielded ops a.tmps j = none := by
    have := ha.slot dg _ hgE;simp [yielded, hgd, this, undef]
  have hw1 : Region.wanted o (yielded ops a.tmps) = false := by
    unfold Region.wanted;rw [hg];simp [h1]
  refine wpAnyH_take hi hs hf hr (fun c a w h => h) (v := undef) (.inr ⟨hw1, rfl⟩) (hS w hw) ?_;exact h (a.put o.dst undef) w (hd ▸ ha.put d undef (by simpa [Nat.blt_eq] using hN)) hw
end
abbrev dx (xs : List Int) (i : Nat) : Int := xs.getD i 0
def swp (xs : List Int) (i j : Nat) : List Int := (xs.set i (dx xs j)).set j (dx xs i)
theorem Kqp (xs : List Int) (i j : Nat) : (swp xs i j).length = xs.length := by simp [swp]
theorem Kl5 {xs : List Int} {i : Nat} (h : i < xs.length) (v : Int) (k : Nat) : dx (xs.set i v) k = if k = i then v else dx xs k := by
  unfold dx;rw [List.getD_eq_getElem?_getD, List.getD_eq_getElem?_getD, List.getElem?_set];by_cases e : i = k
  · subst e; simp [h]
  · rw [if_neg e, if_neg (fun e2 => e e2.symm)]
theorem KbK {xs : List Int} {i j : Nat} (hi : i < xs.length) (hj : j < xs.length) (k : Nat) : dx (swp xs i j) k = if k = j then dx xs i else if k = i then dx xs j else dx xs k := by
  unfold swp;rw [Kl5 (by simpa using hj), Kl5 hi]
theorem Kuh {xs : List Int} {i j : Nat} (hi : i < xs.length) (hj : j < xs.length) : (swp xs i j).Perm xs := by
  have h := List.set_set_perm hi hj;unfold swp dx;rw [List.getD_eq_getElem?_getD, List.getD_eq_getElem?_getD, List.getElem?_eq_getElem hi, List.getElem?_eq_getElem hj];exact h
structure Pin (a b : Nat) (xs ys : List Int) : Prop where
  len : ys.length = xs.length
  perm : ys.Perm xs
  out : ∀ i, i < a \/ b <= i -> dx ys i = dx xs i
  ins : ∀ i, a <= i -> i < b -> ∃ j, a <= j /\ j < b /\ dx ys i = dx xs j
theorem Pin.refl (a b : Nat) (xs : List Int) : Pin a b xs xs := ⟨rfl, List.Perm.refl _, fun _ _ => rfl, fun i h1 h2 => ⟨i, h1, h2, rfl⟩⟩
theorem Pin.trans {a b : Nat} {xs ys zs : List Int} (h : Pin a b xs ys) (h2 : Pin a b ys zs) : Pin a b xs zs :=
  ⟨h2.len.trans h.len, h2.perm.trans h.perm, fun i hi => (h2.out i hi).trans (h.out i hi), fun i h3 h4 => by
    obtain ⟨j, a1, a2, a3⟩ := h2.ins i h3 h4;obtain ⟨k, b1, b2, b3⟩ := h.ins j a1 a2;exact ⟨k, b1, b2, a3.trans b3⟩⟩
theorem Pin.mono {a b a' b' : Nat} {xs ys : List Int} (h : Pin a b xs ys) (ha : a' <= a) (hb : b <= b') : Pin a' b' xs ys :=
  ⟨h.len, h.perm, fun i hi => h.out i (by omega), fun i h1 h2 => by
    by_cases e : a <= i /\ i < b
    · obtain ⟨j, c1, c2, c3⟩ := h.ins i e.1 e.2;exact ⟨j, by omega, by omega, c3⟩
    · exact ⟨i, h1, h2, h.out i (by omega)⟩⟩
theorem Pin.swp1 {a b i j : Nat} {xs : List Int} (hb : b <= xs.length) (h1 : a <= i) (h2 : i < b) (h3 : a <= j) (h4 : j < b) : Pin a b xs (swp xs i j) := by
  have hi : i < xs.length := by omega
  have hj : j < xs.length := by omega
  refine ⟨Kqp _ _ _, Kuh hi hj, fun k hk => ?_, fun k hk1 hk2 => ?_⟩
  · rw [KbK hi hj, if_neg (by omega), if_neg (by omega)]
  · by_cases e : k = j
    · exact ⟨i, h1, h2, by rw [KbK hi hj, if_pos e]⟩
    · by_cases e2 : k = i
      · exact ⟨j, h3, h4, by rw [KbK hi hj, if_neg e, if_pos e2]⟩
      · exact ⟨k, hk1, hk2, by rw [KbK hi hj, if_neg e, if_neg e2]⟩
theorem Pin.swap {a b i j : Nat} {xs ys : List Int} (h : Pin a b xs ys) (hb : b <= xs.length) (h1 : a <= i) (h2 : i < b) (h3 : a <= j) (h4 : j < b) : Pin a b xs (swp ys i j) :=
  h.trans (Pin.swp1 (by rw [h.len]; exact hb) h1 h2 h3 h4)
def Srt (a b : Nat) (xs : List Int) : Prop := ∀ p q, a <= p -> p < q -> q < b -> dx xs p <= dx xs q
def Low (a b : Nat) (xs : List Int) : Prop := ∀ p q, p + 1 = a -> a <= q -> q < b -> dx xs p <= dx xs q
theorem Low.pin {a b : Nat} {xs ys : List Int} (h : Low a b xs) (hp : Pin a b xs ys) : Low a b ys := fun p q h1 h2 h3 => by
  obtain ⟨j, a1, a2, a3⟩ := hp.ins q h2 h3;rw [hp.out p (by omega), a3];exact h p j h1 a1 a2
def Ins (a i j : Nat) (xs : List Int) : Prop := ∀ p q, a <= p -> p < q -> q <= i -> q ≠ j -> dx xs p <= dx xs q
theorem Ins.start {a i : Nat} {xs : List Int} (h : Srt a i xs) : Ins a i i xs := fun p q h1 h2 h3 h4 => h p q h1 h2 (by omega)
theorem Srt.one {a b : Nat} {xs : List Int} (h : b <= a + 1) : Srt a b xs := fun p q h1 h2 h3 => by omega
theorem Srt.less {a b c : Nat} {xs : List Int} (h : Srt a b xs) (hc : c <= b) : Srt a c xs := fun p q h1 h2 h3 => h p q h1 h2 (by omega)
theorem Srt.same {a b : Nat} {xs ys : List Int} (h : Srt a b xs) (he : ∀ k, a <= k -> k < b -> dx ys k = dx xs k) : Srt a b ys := fun p q h1 h2 h3 => by
  rw [he p h1 (by omega), he q (by omega) h3];exact h p q h1 h2 h3
def Hp (f lo hi : Nat) (xs : List Int) : Prop := ∀ i c, lo <= i -> (c = 2 * i + 1 \/ c = 2 * i + 2) -> c < hi -> dx xs (f + c) <= dx xs (f + i)
structure Sft (f lo hi r : Nat) (xs : List Int) : Prop where
  at_ : lo <= r
  heap : ∀ i c, lo <= i -> i ≠ r -> (c = 2 * i + 1 \/ c = 2 * i + 2) -> c < hi -> dx xs (f + c) <= dx xs (f + i)
  up : ∀ i c, lo <= i -> (r = 2 * i + 1 \/ r = 2 * i + 2) -> (c = 2 * r + 1 \/ c = 2 * r + 2) -> c < hi -> dx xs (f + c) <= dx xs (f + i)
theorem Sft.start {f lo hi : Nat} {xs : List Int} (h : Hp f (lo + 1) hi xs) : Sft f lo hi lo xs := ⟨Nat.le_refl _, fun i c h1 h2 h3 h4 => h i c (by omega) h3 h4, fun i c h1 h2 _ _ => by omega⟩
theorem Hp.top {f hi : Nat} {xs : List Int} (h : Hp f 0 hi xs) : ∀ j, j < hi -> dx xs (f + j) <= dx xs f
  | j, hj => by
    rcases Nat.eq_zero_or_pos j with h0 | h0
    · subst h0; exact Int.le_refl _
    · exact Int.le_trans (h ((j - 1) / 2) j (Nat.zero_le _) (by omega) hj) (Hp.top h ((j - 1) / 2) (by omega))
structure Hsr (f m hi : Nat) (xs : List Int) : Prop where
  heap : Hp f 0 m xs
  tail : ∀ j k, j < k -> k < hi -> m <= k -> dx xs (f + j) <= dx xs (f + k)
theorem Hsr.step {f i hi : Nat} {xs ys : List Int} (h : Hsr f (i + 1) hi xs) (hi' : i < hi) (hl : f + hi <= xs.length) (hp : Pin f (f + i) (swp xs f (f + i)) ys) (hh : Hp f 0 i ys) : Hsr f i hi ys := by
  have e1 : f < xs.length := by omega
  have e2 : f + i < xs.length := by omega
  refine ⟨hh, fun j k h1 h2 h3 => ?_⟩
  have key : ∀ j, j < i -> ∃ z, z < i + 1 /\ dx ys (f + j) = dx xs (f + z) := fun j hj => by
    obtain ⟨z, z1, z2, z3⟩ := hp.ins (f + j) (by omega) (by omega);rw [z3, KbK e1 e2];by_cases c1 : z = f + i
    · omega
    · rw [if_neg c1];by_cases c2 : z = f
      · exact ⟨i, by omega, by rw [if_pos c2]⟩
      · exact ⟨z - f, by omega, by rw [if_neg c2]; congr 1; omega⟩
  have top : dx ys (f + i) = dx xs f := by rw [hp.out (f + i) (by omega), KbK e1 e2, if_pos rfl]
  have rest : ∀ k, i < k -> dx ys (f + k) = dx xs (f + k) := fun k hk => by rw [hp.out (f + k) (by omega), KbK e1 e2, if_neg (by omega), if_neg (by omega)]
  by_cases c1 : k = i
  · subst c1;obtain ⟨z, z1, z2⟩ := key j h1;rw [z2, top];exact h.heap.top z z1
  · rw [rest k (by omega)];by_cases c2 : j < i
    · obtain ⟨z, z1, z2⟩ := key j c2;rw [z2];exact h.tail z k (by omega) h2 (by omega)
    · by_cases c3 : j = i
      · subst c3;rw [top];exact h.tail 0 k (by omega) h2 (by omega)
      · rw [rest j (by omega)];exact h.tail j k h1 h2 (by omega)
theorem Hsr.done {f hi : Nat} {xs : List Int} (h : Hsr f 0 hi xs) : Srt f (f + hi) xs := fun p q h1 h2 h3 => by
  have := h.tail (p - f) (q - f) (by omega) (by omega) (by omega);rwa [show f + (p - f) = p by omega, show f + (q - f) = q by omega] at this
structure Prt (a b i j : Nat) (xs : List Int) : Prop where
  hi : a + 1 <= i
  hj : j < b
  ij : i <= j + 1
  lo : ∀ k, a < k -> k < i -> dx xs k <= dx xs a
  up : ∀ k, j < k -> k < b -> dx xs a <= dx xs k
theorem Prt.start {a b : Nat} {xs : List Int} (h : a < b) : Prt a b (a + 1) (b - 1) xs := ⟨Nat.le_refl _, by omega, by omega, fun k h1 h2 => by omega, fun k h1 h2 => by omega⟩
theorem Prt.dec {a b i j : Nat} {xs : List Int} (h : Prt a b i j xs) (hij : i <= j) (hl : dx xs a <= dx xs j) : Prt a b i (j - 1) xs :=
  ⟨h.hi, by have := h.hj; omega, by have := h.hi; omega, h.lo, fun k h1 h2 => by
    by_cases e : k = j
    · rw [e]; exact hl
    · exact h.up k (by omega) h2⟩
theorem Prt.swap {a b i j : Nat} {xs : List Int} (h : Prt a b i j xs) (hb : b <= xs.length) (hij : i < j) (h1 : dx xs j <= dx xs a) (h2 : dx xs a <= dx xs i) : Prt a b (i + 1) (j - 1) (swp xs i j) := by
  have hi := h.hi;have hj := h.hj;have ea : dx (swp xs i j) a = dx xs a := by rw [KbK (by omega) (by omega), if_neg (by omega), if_neg (by omega)]
  refine ⟨by omega, by omega, by omega, fun k k1 k2 => ?_, fun k k1 k2 => ?_⟩
  · rw [ea, KbK (by omega) (by omega), if_neg (by omega)];by_cases e : k = i
    · rw [if_pos e]; exact h1
    · rw [if_neg e]; exact h.lo k k1 (by omega)
  · rw [ea, KbK (by omega) (by omega)];by_cases e : k = j
    · rw [if_pos e]; exact h2
    · rw [if_neg e, if_neg (by omega)]; exact h.up k (by omega) k2
structure Mid (a b m : Nat) (xs : List Int) : Prop where
  hm : a <= m /\ m < b
  lo : ∀ k, a <= k -> k < m -> dx xs k <= dx xs m
  up : ∀ k, m < k -> k < b -> dx xs m <= dx xs k
def Out (a0 b0 a b : Nat) (xs : List Int) : Prop := ∀ p q, a0 <= p -> p < q -> q < b0 -> (p < a \/ b <= q) -> dx xs p <= dx xs q
theorem Out.start (a b : Nat) (xs : List Int) : Out a b a b xs := fun p q h1 h2 h3 h4 => by omega
theorem Out.pin {a0 b0 a b : Nat} {xs ys : List Int} (h : Out a0 b0 a b xs) (ha : a0 <= a) (hb : b <= b0) (hp : Pin a b xs ys) : Out a0 b0 a b ys := fun p q h1 h2 h3 h4 => by
  by_cases c1 : a <= p /\ p < b
  · obtain ⟨j, j1, j2, j3⟩ := hp.ins p c1.1 c1.2;rw [j3, hp.out q (by omega)];exact h j q (by omega) (by omega) h3 (by omega)
  · by_cases c2 : a <= q /\ q < b
    · obtain ⟨j, j1, j2, j3⟩ := hp.ins q c2.1 c2.2;rw [j3, hp.out p (by omega)];exact h p j h1 (by omega) (by omega) (by omega)
    · rw [hp.out p (by omega), hp.out q (by omega)];exact h p q h1 h2 h3 h4
theorem Out.done {a0 b0 a b : Nat} {xs : List Int} (h : Out a0 b0 a b xs) (hs : Srt a b xs) : Srt a0 b0 xs := fun p q h1 h2 h3 => by
  by_cases c : p < a \/ b <= q
  · exact h p q h1 h2 h3 c
  · exact hs p q (by omega) h2 (by omega)
theorem Out.left {a0 b0 a b m : Nat} {xs ys : List Int} (h : Out a0 b0 a b xs) (ha : a0 <= a) (hb : b <= b0) (hm : Mid a b m xs) (hp : Pin a m xs ys) (hs : Srt a m ys) : Out a0 b0 (m + 1) b ys := fun p q h1 h2 h3 h4 => by
  have hab := hm.hm;have h' := h.pin ha hb (hp.mono (Nat.le_refl _) (by omega));by_cases c : p < a \/ b <= q
  · exact h' p q h1 h2 h3 c
  · by_cases c1 : q < m
    · exact hs p q (by omega) h2 c1
    · have hpm : dx ys p <= dx ys m := by
        by_cases e : p = m
        · rw [e]; exact Int.le_refl _
        · obtain ⟨j, j1, j2, j3⟩ := hp.ins p (by omega) (by omega);rw [j3, hp.out m (by omega)];exact hm.lo j j1 j2
      by_cases e : q = m
      · rw [e]; exact hpm
      · refine Int.le_trans hpm ?_;rw [hp.out m (by omega), hp.out q (by omega)];exact hm.up q (by omega) (by omega)
theorem Out.right {a0 b0 a b m : Nat} {xs ys : List Int} (h : Out a0 b0 a b xs) (ha : a0 <= a) (hb : b <= b0) (hm : Mid a b m xs) (hp : Pin (m + 1) b xs ys) (hs : Srt (m + 1) b ys) : Out a0 b0 a m ys := fun p q h1 h2 h3 h4 => by
  have hab := hm.hm;have h' := h.pin ha hb (hp.mono (by omega) (Nat.le_refl _));by_cases c : p < a \/ b <= q
  · exact h' p q h1 h2 h3 c
  · by_cases c1 : m < p
    · exact hs p q (by omega) h2 (by omega)
    · have hmq : dx ys m <= dx ys q := by
        by_cases e : q = m
        · rw [e]; exact Int.le_refl _
        · obtain ⟨j, j1, j2, j3⟩ := hp.ins q (by omega) (by omega);rw [j3, hp.out m (by omega)];exact hm.up j (by omega) j2
      by_cases e : p = m
      · rw [e]; exact hmq
      · refine Int.le_trans ?_ hmq;rw [hp.out m (by omega), hp.out p (by omega)];exact hm.lo p (by omega) (by omega)
theorem Low.right {a b m : Nat} {xs ys : List Int} (hm : Mid a b m xs) (hp : Pin a m xs ys) : Low (m + 1) b ys := fun p q h1 h2 h3 => by
  rw [hp.out p (by omega), hp.out q (by omega), show p = m by omega];exact hm.up q (by omega) h3
theorem Low.left {a b m : Nat} {xs ys : List Int} (h : Low a b xs) (hm : m <= b) (hp : Pin (m + 1) b xs ys) (ham : a <= m) : Low a m ys := fun p q h1 h2 h3 => by
  rw [hp.out p (by omega), hp.out q (by omega)];exact h p q h1 h2 (by omega)
structure Eqs (a b m : Nat) (xs : List Int) : Prop where
  hm : a < m /\ m <= b
  lo : ∀ k, a <= k -> k < m -> dx xs k <= dx xs a
  up : ∀ k, m <= k -> k < b -> dx xs a <= dx xs k
theorem Eqs.low {a b m : Nat} {xs : List Int} (he : Eqs a b m xs) : Low m b xs := fun p q h1 h2 h3 => by
  have := he.hm;exact Int.le_trans (he.lo p (by omega) (by omega)) (he.up q h2 h3)
theorem Kd.ad {w : World} {B size n : Nat} {A : Option Addr} {xs : List Value} (h : Kd w B size A n xs) (hn : 0 < n) (hs : 0 < size) : ∃ b o, A = some ⟨b, o, none⟩ /\ b < B /\ ∀ (j : Nat) (u : Value), xs[j]? = some u -> w.cell? ⟨b, o + j, none⟩ = some u := by
  obtain ⟨⟨b, o, sp⟩, hA, hb, hc⟩ := h.2 hn;have hl : 0 < xs.length := by rw [h.1]; exact Nat.mul_pos hn hs
  have hsp : sp = none := by
    have := hc 0 xs[0] (List.getElem?_eq_getElem hl)
    simpa [Addr.add] using World.cell?_spot this
  subst hsp;refine ⟨b, o, hA, hb, fun j u hu => ?_⟩;have e : (⟨b, o, none⟩ : Addr).add j = ⟨b, o + j, none⟩ := by unfold Addr.add; split <;> simp_all
  rw [<- e];exact hc j u hu
section
variable {P : Program} {N : Fr} {Q : Exit -> Act -> World -> Prop} {E : Env} {w0 : Base} {L : List Pc} {ops : Array Oper} {l : List Oper} {o : Oper} {I : World -> Prop}
theorem KgJ {t e : TypeId} {size : Nat} (ht : P.underlying t = some (.slice e)) (hs : ∀ w : World, (sizeOf e).run P w = .ok size w) {A : Option Addr} {b off : Nat} (hA : A = some ⟨b, off, none⟩) (n c i : Nat) (hi : i < n) {z : Int} (hz : z = (i : Int)) (w : World) :
    (Instr.indexAt t (.slice A n c) (.int .i64 z)).run P w = .ok (.pointer (some ⟨b, off + i * size, none⟩)) w := by
  subst hA hz;have h1 : (0 : Int) <= (i : Int) /\ (i : Int) < n := by omega
  have hadd : (⟨b, off, none⟩ : Addr).add (i * size) = ⟨b, off + i * size, none⟩ := by unfold Addr.add; split <;> simp_all
  simp [Instr.indexAt, run_underlying ht, asIntOf, hs, h1, hadd, go_sem]
  try (intro hh; exact absurd hh (by omega))
theorem KtX {t u e e' : TypeId} (ht : P.underlying t = some (.slice e)) (hu : P.underlying u = some (.slice e')) (ty : TypeId) (vs : Array Value) (w : World) : (Builtin.append_ #[t, u] ty vs).run P w = (Builtin.append_ #[t, t] ty vs).run P w := by
  unfold Builtin.append_
  cases h0 : vs[0]? with
  | none => simp [h0]
  | some s =>
    cases h1 : vs[1]? with
    | none => simp [h0, h1]
    | some x =>
      cases s <;> simp [h0, h1, Sem.run_bind, run_underlying ht, run_underlying hu]
theorem TL.appendT {d k : Nat} {s x : Operand} {t u e e' : TypeId} {size bytes n c m cc : Nat} {A0 A : Option Addr} {olds news : List Value} (hg : o.guard = none) (hd : o.dst = some d) (hN : Nat.blt d N.n = true)
    (ho : o.op = .call { callee := .builtin .append, args := #[s, x], argTypes := #[t, u] }) (hu : P.underlying u = some (.slice e')) (hE : Elem P t e size bytes) (hs : ev E s = some (.slice A0 n c)) (hx : ev E x = some (.slice A m cc))
    (hk : L[k]? = some (.row (.slice A0 n c) e size n olds)) (hr : ∀ w, Pm w0 L w -> ∃ B, Kd w B size A m news) (h1 : ∀ u ∈ news, u.oneCell' = true) (hlim : (n + m) * bytes <= 140737488355328) (M : Nat) (hM : M = n + m) (res : List Value) (hres : olds ++ news = res)
    (h : ∀ A' c', M <= c' -> c' <= maxLen -> TL P N ops Q l ((d, .slice A' M c') :: E) (Pm w0 (L.set k (.row (.slice A' M c') e size M res)))) : TL P N ops Q (o :: l) E (Pm w0 L) := by
  subst hM hres;refine TL.run (α := { p : Option Addr × Nat // n + m <= p.2 /\ p.2 <= maxLen }) (r := fun p => .slice p.1.1 (n + m) p.1.2) (I' := fun p => Pm w0 (L.set k (.row (.slice p.1.1 (n + m) p.1.2) e size (n + m) (olds ++ news)))) hg hd hN (fun a w ha hw => ?_) (fun p => h p.1.1 p.1.2 p.2.1 p.2.2);obtain ⟨i, z, hi, hz, hsz, hby, hzs⟩ := hE.info;obtain ⟨B, hrd⟩ := hr w hw
  have hmx : n + m <= maxLen := by
    have : n + m <= (n + m) * bytes := Nat.le_mul_of_pos_right _ hE.big;unfold maxLen; omega
  obtain ⟨v', w', hrun, hown', hgr, hkey⟩ := KjD (P := P) w w0.b t o.type e i z size bytes hE.und hi hz hsz hby hzs hE.pos _ n olds (hw.at_ hk) B A m cc news hrd h1 hmx hlim hw.base;rw [<- KtX hE.und hu] at hrun;obtain ⟨A', c', rfl, hc1, hc2⟩ := Kiq hown';refine ⟨⟨(A', c'), hc1, hc2⟩, w', ?_, hw.turn hk hgr hown' (fun g hg => ?_) (fun k o e => ?_)⟩
  · unfold execOp; rw [ho];simp only [resolve, invoke, builtin, Sem.run_bind, Sem.run_pure, Result.andThen_ok, List.map_toArray, List.map_cons, List.map_nil, ha.eval hs, ha.eval hx, hrun]
  · rcases hkey with hkey | hkey
    · exact .inl (hkey.symm.trans hg)
    · right
      have : (Value.slice A' (n + m) c').ownBlock = some g := hg;rw [hkey] at this
      injection this with this
      omega
  · cases e
theorem TQ.on {R : Act -> Prop} {j d : Nat} {b : Bool} (hg : o.guard = some (j, b)) (hd : (ops[j]?).bind (·.dst) = some d) (hE : look E d = some (.bool b)) (h : TQ P N ops R ({ o with guard := none } :: l) E I) : TQ P N ops R (o :: l) E I := fun a ha => by
  have hw1 := Kdu ha hg hd hE;have := h a ha;unfold wpQuiet at this ⊢;rw [if_pos (by simp [Region.wanted])] at this;rw [if_pos (by simp [hw1])];exact this
theorem TQ.off {R : Act -> Prop} {j d t : Nat} {b b' : Bool} (hg : o.guard = some (j, b')) (hd : (ops[j]?).bind (·.dst) = some d) (hE : look E d = some (.bool b)) (hne : (b == b') = false) (ht : o.dst = some t) (hN : Nat.blt t N.n = true) (h : TQ P N ops R l ((t, undef) :: E) I) : TQ P N ops R (o :: l) E I := fun a ha => by
  have hw1 := Kdu ha hg hd hE;unfold wpQuiet;rw [if_neg (by rw [hw1, hne]; decide), ht];exact h _ (ha.put t undef (by simpa [Nat.blt_eq] using hN))
theorem TQ.offU {R : Act -> Prop} {j d t : Nat} {b' : Bool} (hg : o.guard = some (j, b')) (hd : (ops[j]?).bind (·.dst) = some d) (hE : look E d = some undef) (ht : o.dst = some t) (hN : Nat.blt t N.n = true) (h : TQ P N ops R l ((t, undef) :: E) I) : TQ P N ops R (o :: l) E I := fun a ha => by
  have h1 : yielded ops a.tmps j = none := by
    have := ha.slot d _ hE;simp [yielded, hd, this, undef]
  have hw1 : Region.wanted o (yielded ops a.tmps) = false := by
    unfold Region.wanted;rw [hg];simp [h1]
  unfold wpQuiet;rw [if_neg (by rw [hw1]; decide), ht];exact h _ (ha.put t undef (by simpa [Nat.blt_eq] using hN))
theorem KaQ {t : TypeId} {x : Operand} {b off size : Nat} {cs : List Value} (ho : o.op = .load t x) (hx : ev E x = some (.pointer (some ⟨b, off, none⟩))) (hag : ∀ w : World, (isAgg t).run P w = .ok true w) (hs : ∀ w : World, (sizeOf t).run P w = .ok size w) (hlen : cs.length = size)
    (hc : ∀ w, I w -> ∀ (j : Nat) (u : Value), cs[j]? = some u -> w.cell? ⟨b, off + j, none⟩ = some u) : Kv P N o E I (.agg cs.toArray) := fun a w ha hw => by
  unfold execOp; rw [ho];simp only [ha.eval hx]
  have hl := run_loadCells_list (P := P) w ⟨b, off, none⟩ cs (fun j v hj => by
    have hadd : (⟨b, off, none⟩ : Addr).add j = ⟨b, off + j, none⟩ := by unfold Addr.add; split <;> simp_all
    rw [hadd];exact hc w hw j v hj)
  rw [hlen] at hl;simp only [Instr.loadAt, Instr.sureAddr, Sem.run_bind, Sem.run_pure, Result.andThen_ok, loadVar, hag, hs, hl, if_true]
end
open Go.WideElems (Fit rg)
structure IMap (P : Program) (t k e : TypeId) (qk qe : IntKind) : Prop where
  ht : P.underlying t = some (.map k e)
  hk : P.underlying k = some (.int qk)
  he : P.underlying e = some (.int qe)
  hz : ∀ w : World, (zeroValue e).run P w = .ok (.int qe 0) w
def KbT (P : Program) (k e : TypeId) (qk qe : IntKind) (o : Obj) (n : Nat) (f : Int -> Option Int) : Prop :=
  ∃ (es : Array MapEntry) (clock : Nat) (D : DataW Unit), o = .map es clock /\ Fit (H := Unit) P k (plainElem P e) es clock /\ es.size = n /\ D = .map ((es.toList.map (rg P k (plainElem P e))).foldr DataW.insert []) /\
    ∀ a, (Lit.int qk a).wf = true -> Maps.has D (.int qk a) = (f a).isSome /\ D.atKey (.int qk a) (.lit (.int qe 0)) = .lit (.int qe ((f a).getD 0))
section
variable {P : Program} {t k e : TypeId} {qk qe : IntKind} {o : Obj} {n g : Nat} {f : Int -> Option Int} {w : World}
theorem KbT.owns (h : KbT P k e qk qe o n f) (hb : w.heap[g]? = some o) : ∃ D : DataW Unit, (w.ownsMap P k (plainElem P e) g n D /\ Maps.size D = n) /\ ∀ a, (Lit.int qk a).wf = true -> Maps.has D (.int qk a) = (f a).isSome /\ D.atKey (.int qk a) (.lit (.int qe 0)) = .lit (.int qe ((f a).getD 0)) := by
  obtain ⟨es, clock, D, rfl, F, hs, hD, hf⟩ := h;exact ⟨D, ⟨⟨es, clock, hb, F, Nat.le_of_eq hs, hD⟩, by rw [hD, <- hs]; rw [Maps.size, length_read]⟩, hf⟩
theorem KbT.of_owns {D : DataW Unit} {m : Nat} (h : w.ownsMap P k (plainElem P e) g n D) (hm : Maps.size D = m) (hf : ∀ a, (Lit.int qk a).wf = true -> Maps.has D (.int qk a) = (f a).isSome /\ D.atKey (.int qk a) (.lit (.int qe 0)) = .lit (.int qe ((f a).getD 0))) : ∃ o, w.heap[g]? = some o /\ KbT P k e qk qe o m f := by
  obtain ⟨es, clock, hb, F, hs, hD⟩ := h;exact ⟨_, hb, es, clock, D, rfl, F, by rw [<- hm, hD]; rw [Maps.size, length_read], hD, hf⟩
theorem KbT.look (h : KbT P k e qk qe o n f) (T : IMap P t k e qk qe) (hb : w.heap[g]? = some o) {a : Int} (ha : (Lit.int qk a).wf = true) : (Instr.lookup t (.map (some g)) (.int qk a) false).run P w = .ok (.int qe ((f a).getD 0)) w := by
  obtain ⟨D, ⟨hD, hsz⟩, hf⟩ := h.owns hb;obtain ⟨c, hrun, hat, _⟩ := hD.lookup_int (Maps.int_keyed T.hk) T.ht T.he (T.hz w) (Maps.keyOf_int_mk T.hk ha);rw [(hf a ha).2] at hat;have : (f a).getD 0 = c := by injection hat with hat; injection hat
  rw [this];exact hrun
theorem KbT.put (h : KbT P k e qk qe o n f) (T : IMap P t k e qk qe) (hn : n < maxLen) (hb : w.heap[g]? = some o) {a b : Int} (ha : (Lit.int qk a).wf = true) (hbw : (Lit.int qe b).wf = true) :
    ∃ o' w', (Instr.mapUpdate t (.map (some g)) (.int qk a) (.int qe b)).run P w = .ok () w' /\ w'.heap[g]? = some o' /\ KbT P k e qk qe o' (if (f a).isSome then n else n + 1) (fun z => if z = a then some b else f z) /\ w.grownBy w' (some g) := by
  obtain ⟨D, ⟨hD, hsz⟩, hf⟩ := h.owns hb;have hk := Maps.keyOf_int_mk T.hk ha;obtain ⟨w', hrun, hD', hg⟩ := hD.update (Maps.int_keyed T.hk) T.ht hn hk (plainElem_int T.he hbw)
  obtain ⟨o', ho', hm'⟩ := KbT.of_owns (qk := qk) (qe := qe) (f := fun z => if z = a then some b else f z) hD' (by rw [Maps.size_put (hD.tidy (Maps.int_keyed T.hk)), hsz, (hf a ha).1]) (fun z hz => by
    by_cases e1 : z = a
    · subst e1;rw [if_pos rfl];exact ⟨Maps.has_put_same hD.isMap ((Maps.int_keyed T.hk).key hk) _, Maps.atKey_put_same hD.isMap ((Maps.int_keyed T.hk).key hk) _ _⟩
    · have hne : (Lit.int qk z) ≠ .int qk a := fun hh => e1 (by injection hh);rw [if_neg e1, Maps.has_put_other hne, Maps.atKey_put_other hne];exact hf z hz)
  exact ⟨o', w', hrun, ho', hm', hg⟩
end
section
variable {P : Program} {N : Fr} {Q : Exit -> Act -> World -> Prop} {E : Env} {w0 : Base} {L : List Pc} {ops : Array Oper} {l : List Oper} {o : Oper} {w w' : World}
def Kbu (w0 : Base) (g : Nat) : Prop := ∀ o, w0.w.heap[g]? = some o -> o.isCells = true
theorem Klv {w0 : Base} {g : Nat} (h : w0.w.heap.size <= g) : Kbu w0 g := fun o ho => by
  have := (Array.getElem?_eq_some_iff.1 ho).1;omega
theorem Pm.turnO (h : Pm w0 L w) {k g : Nat} {ob ob' : Obj} (hk : L[k]? = some (.oth g ob)) (hnew : Kbu w0 g) (hg : w.grownBy w' (some g)) (hb : w'.heap[g]? = some ob') : Pm w0 (L.set k (.oth g ob')) w' := by
  have hpo := h.at_ hk;refine ⟨h.bel.grown hg h.base fun j e => by cases e; exact hpo.2, fun q hq => ?_, ?_, ⟨Nat.le_trans h.oth.size hg.size, fun j x hj hx => ?_⟩, h.low⟩
  · obtain ⟨i, hi⟩ := List.getElem?_of_mem hq;rw [List.getElem?_set] at hi;by_cases e : k = i
    · subst e;have hlt := (List.getElem?_eq_some_iff.1 hk).1;simp [hlt] at hi;subst hi;exact ⟨hb, hpo.2⟩
    · rw [if_neg e] at hi;refine Pc.same (h.at_ hi) (fun j hj => hg.block j (Pc.lt (h.at_ hi) j hj).2 fun he => ?_) (fun j hj => hg.block j (Nat.lt_of_lt_of_le hj h.base) fun he => ?_)
      · cases he;exact h.neq hk hi e g rfl hj
      · cases he;have := hpo.2;omega
  · refine List.pairwise_iff_getElem.2 fun i j hi hj hij x hxi hxj => ?_
    have key : ∀ (m : Nat) (hm : m < (L.set k (.oth g ob')).length), ((L.set k (.oth g ob'))[m]).key = (L[m]'(by simpa using hm)).key := fun m hm => by
      rw [List.getElem_set];split
      · rename_i e;subst e;rw [(List.getElem?_eq_some_iff.1 hk).2]
        rfl
      · rfl
    rw [key] at hxi hxj;exact List.pairwise_iff_getElem.1 h.apart i j (by simpa using hi) (by simpa using hj) hij x hxi hxj
  · have h1 := h.oth.same j x hj hx;exact (hg.block j (Array.getElem?_eq_some_iff.1 h1).1 fun he => by cases he; rw [hnew x hj] at hx; cases hx).trans h1
theorem TL.mkmap {d : Nat} {t : TypeId} (hg : o.guard = none) (hd : o.dst = some d) (hN : Nat.blt d N.n = true) (ho : o.op = .makeMap t none)
    (h : ∀ g, Kbu w0 g -> TL P N ops Q l ((d, .map (some g)) :: E) (Pm w0 (.oth g (.map #[] 0) :: L))) : TL P N ops Q (o :: l) E (Pm w0 L) :=
  TL.run (α := {g : Nat // w0.w.heap.size <= g}) (r := fun g => .map (some g.1)) (I' := fun g => Pm w0 (.oth g.1 (.map #[] 0) :: L)) hg hd hN (fun a w ha hw => by
    refine ⟨⟨w.heap.size, hw.oth.size⟩, w.alloc (.map #[] 0), ?_, hw.add ((Below.refl _ _).alloc (Nat.le_refl _) _) ⟨heap_alloc_new w _, Nat.le_refl _⟩⟩;unfold execOp; rw [ho]
    rfl) (fun g => h g.1 (Klv g.2))
def Ka6 (w : World) (g : Nat) : World := { w with heap := w.heap.setIfInBounds g (.cells #[] 0) }
theorem KhE {w : World} {g k : Nat} (h : k ≠ g) : (Ka6 w g).heap[k]? = w.heap[k]? := by
  show (w.heap.setIfInBounds g _)[k]? = _;rw [Array.getElem?_setIfInBounds_ne (fun e => h e.symm)]
theorem Kf0 (w : World) (g : Nat) : (Ka6 w g).heap.size = w.heap.size := by simp [Ka6]
theorem Pm.mapStart {w : World} {g : Nat} {ob : Obj} (hb : w.heap[g]? = some ob) : Pm ⟨Ka6 w g, g⟩ (.oth g ob :: KaK g w) w := by
  have hlt := (Array.getElem?_eq_some_iff.1 hb).1;refine ⟨⟨rfl, rfl, rfl, Nat.le_of_eq (Kf0 w g), fun k hk => (KhE (Nat.ne_of_lt hk)).symm⟩, fun q hq => ?_, List.Pairwise.cons (fun q hq x hx he => ?_) (KkA g w), ⟨Nat.le_of_eq (Kf0 w g), fun k o hk ho => ?_⟩, by rw [Kf0]; exact Nat.le_of_lt hlt⟩
  · rcases List.mem_cons.1 hq with rfl | hq
    · exact ⟨hb, Nat.le_refl _⟩
    · obtain ⟨k, o, rfl, h1, h2⟩ := KfJ hq;exact ⟨h2, Nat.le_of_lt h1⟩
  · obtain ⟨k, o, rfl, h1, h2⟩ := KfJ hq;simp only [Pc.key, Option.some.injEq] at hx he;omega
  · by_cases e : k = g
    · subst e;have : (Ka6 w k).heap[k]? = some (.cells #[] 0) := by show (w.heap.setIfInBounds k _)[k]? = _; simp [hlt]
      rw [this] at hk;cases hk;cases ho
    · rw [<- KhE e]; exact hk
theorem Pm.mapEnd {w w1 : World} {g : Nat} {L : List Pc} (h : Pm ⟨Ka6 w g, g⟩ L w1) (hs : ∀ q ∈ KaK g w, q ∈ L) : w.grownBy w1 (some g) := by
  refine ⟨h.bel.os, h.bel.tape, h.bel.output, by have := h.bel.size; rwa [Kf0] at this, fun k hk hne => ?_⟩;rcases Nat.lt_trichotomy k g with h1 | h1 | h1
  · exact (h.bel.block k h1).trans (KhE (Nat.ne_of_lt h1))
  · exact absurd (by rw [h1]) hne
  · obtain ⟨o, ho, hm⟩ := KhI h1 hk;exact ((h.own _ (hs _ hm)).1).trans ho.symm
end
def uv (xs : List Int) : List Value := xs.map (Value.int .u32)
theorem Kp9 (xs : List Int) : (uv xs).length = xs.length := by simp [uv]
def Rw (e : TypeId) (w : World) (g n c : Nat) (xs : List Int) : Prop := w.ownsRow g e 1 (.slice (some ⟨g, 0, none⟩) n c) n (uv xs)
theorem Rw.len {e : TypeId} {w : World} {g n c : Nat} {xs : List Int} (h : Rw e w g n c xs) : xs.length = n := by
  have := h.1;rw [Kp9] at this;omega
theorem Rw.obj {e : TypeId} {w : World} {g n c : Nat} {xs : List Int} (h : Rw e w g n c xs) : (∃ o, w.heap[g]? = some o) /\ n <= c /\ c <= maxLen := by
  rcases h.2 with ⟨e1, _⟩ | ⟨g', cap, cur, a, hb, hg, hn, hm, r⟩
  · cases e1
  · cases a;exact ⟨⟨_, hg⟩, hn, hm⟩
section
variable {P : Program} {N : Fr} {Q : Exit -> Act -> World -> Prop} {E : Env} {w0 : Base} {L : List Pc} {ops : Array Oper} {l : List Oper} {o : Oper}
theorem Kra {t e : TypeId} (ht : P.underlying t = some (.slice e)) (hs : ∀ w : World, (sizeOf e).run P w = .ok 1 w) (g n c i : Nat) (hi : i < n) {z : Int} (hz : z = (i : Int)) (w : World) :
    (Instr.indexAt t (.slice (some ⟨g, 0, none⟩) n c) (.int .i64 z)).run P w = .ok (.pointer (some ⟨g, i, none⟩)) w := by
  have := KgJ (P := P) ht hs (A := some ⟨g, 0, none⟩) (b := g) (off := 0) rfl n c i hi hz w;rwa [Nat.zero_add, Nat.mul_one] at this
theorem KbQ {m n : Int} {xt : TypeId} (h0 : 0 <= m) (h1 : 0 < n) (hm : m < 9223372036854775808) (w : World) : (binOp .quo xt (.int .i64 m) (.int .i64 n)).run P w = .ok (.int .i64 (m / n)) w := by
  have hne : n ≠ 0 := by omega
  have hd : m / n <= m := Int.ediv_le_self _ h0;have hd0 : 0 <= m / n := Int.ediv_nonneg h0 (by omega)
  have : IntKind.wrap .i64 (m.tdiv n) = m / n := by
    rw [Int.tdiv_eq_ediv_of_nonneg h0];simp only [IntKind.wrap_i64]; omega
  simp [binOp, go_sem, hne, this]
end
section
variable {P : Program} {N : Fr} {Q : Exit -> Act -> World -> Prop} {E : Env} {w0 : Base} {L : List Pc} {ops : Array Oper} {l : List Oper} {o : Oper}
theorem TL.rowclear {t e : TypeId} {s : Operand} {g off k n c m cc size : Nat} {z : Value} {xs zs : List Value} (hg : o.guard = none) (hd : o.dst = none) (ho : o.op = .call { callee := .builtin .clear, args := #[s], argTypes := #[t] }) (hs : ev E s = some (.slice (some ⟨g, off, none⟩) m cc))
    (ht : P.underlying t = some (.slice e)) (hz : ∀ w : World, (zeroValue e).run P w = .ok z w) (hzs : (Builtin.zeroCells z.cells m).toList = zs) (h1 : ∀ u ∈ zs, u.oneCell' = true) (hm : 0 < m)
    (hk : L[k]? = some (.row (.slice (some ⟨g, 0, none⟩) n c) e size n xs)) (hl : off + zs.length <= xs.length) {xs' : List Value} (hL : xs.take off ++ zs ++ xs.drop (off + zs.length) = xs')
    (h : TL P N ops Q l E (Pm w0 (L.set k (.row (.slice (some ⟨g, 0, none⟩) n c) e size n xs')))) : TL P N ops Q (o :: l) E (Pm w0 L) := fun a w ha hw =>
  wpList_plain hg fun K hK => by
    subst hL;obtain ⟨cur, hcur, hfit, hown⟩ := KiF (hw.at_ hk) hl
    have hrun : (execOp a.eval o).run P w = .ok (.value (.tuple #[])) (w.setRow g (cur.toList.take off ++ zs ++ cur.toList.drop (off + zs.length)).toArray) := by
      unfold execOp; rw [ho];have hst := run_storeCells_at (P := P) g off e zs 0 cur w hcur (by simpa using hfit) h1;simp only [Nat.add_zero] at hst;obtain ⟨m', rfl⟩ : ∃ m', m = m' + 1 := ⟨m - 1, by omega⟩;simp only [resolve, invoke, builtin, Sem.run_bind, Sem.run_pure, Result.andThen_ok, List.map_toArray, List.map_cons, List.map_nil, ha.eval hs];unfold Builtin.clear_;simp [go_sem, run_underlying ht, hz];show ((Sem.run P (storeCells _ (Builtin.zeroCells z.cells (m' + 1)).toList) w).andThen _).andThen _ = _;rw [hzs, hst, List.append_assoc]
      rfl
    unfold Oper.wp;rw [hrun];show K (a.put o.dst _) _;rw [hd];exact hK _ _ (h _ _ (ha.put0 _) (hw.turn hk (Kff _ _) hown (fun g' hg' => .inl hg') (fun k o e => by cases e)))
end
section
variable {P : Program} {N : Fr} {Q : Exit -> Act -> World -> Prop} {E : Env} {I : World -> Prop} {ops : Array Oper} {l : List Oper} {o : Oper}
def Ent (P : Program) (N : Fr) (E : Env) (o : Oper) (f : FuncId) (us : Array Value) : Prop := ∀ a w, EnvOk N E a -> (execOp a.eval o).run P w = .ok (.enter f us) w
theorem KdO {x : Operand} {xs : List Operand} {ts : Array TypeId} {vs : List Value} {f : FuncId} {fn : Func} {first cap us : Array Value} (ho : o.op = .call { callee := .value x, args := xs.toArray, argTypes := ts }) (hv : ev E x = some (.func (.func f) first cap)) (hx : evs E xs = some vs)
    (hf : P.funcs[f]? = some fn) (hn : (fn.name == "runtime.NumGoroutine") = false) (hb : fn.body.isNone = false) (hu : first ++ vs.toArray ++ cap = us) : Ent P N E o f us := fun a w ha => by
  unfold execOp; rw [ho];have harr : xs.toArray.map a.eval = vs.toArray := by rw [List.map_toArray, ha.evals hx]
  subst hu;simp only [resolve, harr, ha.eval hv, Deferred.ofValue];have hn' : ¬ fn.name = "runtime.NumGoroutine" := by simpa using hn
  have hb' : ¬ fn.body = none := by intro e; rw [e] at hb; simp at hb
  simp [invoke, callFunc, hf, hn', hb', go_sem]
theorem TL.callE {α : Type} {d : Nat} {f : FuncId} {us : Array Value} {r : α -> Value} {I' : α -> World -> Prop} (hg : o.guard = none) (hd : o.dst = some d) (hN : Nat.blt d N.n = true) (he : Ent P N E o f us)
    (hc : ∀ w, I w -> Calls P f us w fun e w' => ∃ x, e = .returned (r x) /\ I' x w') (h : ∀ x, TL P N ops Q l ((d, r x) :: E) (I' x)) : TL P N ops Q (o :: l) E I := fun a w ha hw =>
  wpList_plain hg fun K hK => by
    unfold Oper.wp;rw [he a w ha, Oper.upon_enter];refine (hc w hw).mono ?_;rintro e w' ⟨x, rfl, hI⟩;show K (a.put o.dst (r x)) w';rw [hd];exact hK _ _ (h x _ _ (ha.put d _ (by simpa [Nat.blt_eq] using hN)) hI)
theorem TL.callE1 {w0 : Base} {L : List Pc} {d : Nat} {f : FuncId} {us : Array Value} {r : Value} (hg : o.guard = none) (hd : o.dst = some d) (hN : Nat.blt d N.n = true) (he : Ent P N E o f us)
    (hc : ∀ w, Pm w0 L w -> Calls P f us w fun e w' => e = .returned r /\ Below w.heap.size w w') (h : TL P N ops Q l ((d, r) :: E) (Pm w0 L)) : TL P N ops Q (o :: l) E (Pm w0 L) :=
  TL.callE (α := Unit) (r := fun _ => r) (I' := fun _ => Pm w0 L) hg hd hN he (fun w hw => (hc w hw).mono fun e w' ⟨he, hb⟩ => ⟨(), he, hw.below hb⟩) (fun _ => h)
theorem Kkt {f : Fn} {xs ys : List Operand} {us vs : List Value} (ho : o.op = .makeFunc f xs.toArray ys.toArray) (hx : evs E xs = some us) (hy : evs E ys = some vs) : Kv P N o E I (.func f us.toArray vs.toArray) := fun a w ha _ => by
  unfold execOp; rw [ho];have h1 : xs.toArray.map a.eval = us.toArray := by rw [List.map_toArray, ha.evals hx]
  have h2 : ys.toArray.map a.eval = vs.toArray := by rw [List.map_toArray, ha.evals hy]
  simp [h1, h2, Instr.makeFunc, go_sem]
end
section
variable {P : Program} {N : Fr} {Q : Exit -> Act -> World -> Prop} {E : Env} {w0 : Base} {L : List Pc} {ops : Array Oper} {l : List Oper} {o : Oper}
theorem TL.shift {d k g n c cc i j size bytes : Nat} {t e : TypeId} {s x : Operand} {A : Option Addr} {xs : List Value} (hg : o.guard = none) (hd : o.dst = some d) (hN : Nat.blt d N.n = true)
    (ho : o.op = .call { callee := .builtin .append, args := #[s, x], argTypes := #[t, t] }) (hE : Elem P t e size bytes) (hs : ev E s = some (.slice (some ⟨g, 0, none⟩) i c)) (hx : ev E x = some (.slice A (n - j) cc))
    (hk : L[k]? = some (.row (.slice (some ⟨g, 0, none⟩) n c) e size n xs)) (hA : j < n -> A = some ⟨g, j * size, none⟩) (hA0 : A ≠ none) (hij : i <= j) (hj : j <= n) (hnc : n <= c) (h1 : ∀ u ∈ xs, u.oneCell' = true) {xs' : List Value}
    (hL : xs.take (i * size) ++ xs.drop (j * size) ++ xs.drop (i * size + (xs.drop (j * size)).length) = xs') {M : Nat} (hM : M = i + (n - j))
    (h : TL P N ops Q l ((d, .slice (some ⟨g, 0, none⟩) M c) :: E) (Pm w0 (L.set k (.row (.slice (some ⟨g, 0, none⟩) n c) e size n xs')))) : TL P N ops Q (o :: l) E (Pm w0 L) := by
  subst hL hM;refine TL.run (α := Unit) (r := fun _ => .slice (some ⟨g, 0, none⟩) (i + (n - j)) c) (I' := fun _ => Pm w0 (L.set k (.row (.slice (some ⟨g, 0, none⟩) n c) e size n (xs.take (i * size) ++ xs.drop (j * size) ++ xs.drop (i * size + (xs.drop (j * size)).length))))) hg hd hN (fun a w ha hw => ?_) (fun _ => h);obtain ⟨ti, z, hi, hz, hsz, hby, hzs⟩ := hE.info;have hrow := hw.at_ hk;have hlen : xs.length = n * size := hrow.1;have hdl : (xs.drop (j * size)).length = (n - j) * size := by rw [List.length_drop, hlen, Nat.sub_mul]
  have hfit : i * size + (xs.drop (j * size)).length <= xs.length := by
    rw [hdl, hlen, <- Nat.add_mul];exact Nat.mul_le_mul_right _ (by omega)
  obtain ⟨cur, hcur, hfc, hown⟩ := KiF hrow hfit
  obtain ⟨ad, rfl⟩ : ∃ ad, A = some ad := by
    cases A with
    | none => exact absurd rfl hA0
    | some ad => exact ⟨ad, rfl⟩
  refine ⟨(), w.setRow g (cur.toList.take (i * size) ++ xs.drop (j * size) ++ cur.toList.drop (i * size + (xs.drop (j * size)).length)).toArray, ?_, hw.turn hk (Kff _ _) hown (fun g' hg' => .inl hg') (fun k o e => by cases e)⟩;unfold execOp; rw [ho]
  have hrun := run_append_room (P := P) w t o.type e ti hE.und hi g i c cur hcur ad (n - j) cc (xs.drop (j * size)) (by rw [hdl, hsz]) (fun q u hu => by
    have hjn : j < n := by
      rcases Nat.lt_or_ge j n with hh | hh
      · exact hh
      · have : (xs.drop (j * size)).length = 0 := by rw [hdl, Nat.sub_eq_zero_of_le hh, Nat.zero_mul]
        rw [List.eq_nil_of_length_eq_zero this] at hu;cases hu
    have := hA hjn;cases this;rw [List.getElem?_drop] at hu;have h3 := Kj0 hw hk hu;rw [<- h3]
    congr 1
    unfold Addr.add; split <;> simp_all) (fun u hu => h1 u (List.mem_of_mem_drop hu)) (by omega) (by rw [hsz]; exact hfc)
  rw [hsz] at hrun;simp only [resolve, invoke, builtin, Sem.run_bind, Sem.run_pure, Result.andThen_ok, List.map_toArray, List.map_cons, List.map_nil, ha.eval hs, ha.eval hx, hrun]
end
theorem Pm.permute {w0 : Base} {w : World} {L L' : List Pc} (h : Pm w0 L w) (hp : L.Perm L') : Pm w0 L' w :=
  ⟨h.bel, fun q hq => h.own q (hp.mem_iff.2 hq), (hp.pairwise_iff (fun {p q} hpq g hg he => hpq g he hg)).1 h.apart, h.oth, h.low⟩
theorem KeW {α : Type} {ss : List α} {k : Nat} {s : α} (h : ss[k]? = some s) : ss.Perm (s :: ss.eraseIdx k) := by
  obtain ⟨hlt, rfl⟩ := List.getElem?_eq_some_iff.1 h;have e : ss = ss.take k ++ ss[k] :: ss.drop (k + 1) := by rw [List.getElem_cons_drop, List.take_append_drop]
  rw [List.eraseIdx_eq_take_drop_succ];exact (List.Perm.of_eq e).trans List.perm_middle
theorem Kmk {α : Type} {ss : List α} {k : Nat} (h : k < ss.length) (s : α) : (ss.set k s).Perm (s :: ss.eraseIdx k) := by
  rw [List.set_eq_take_append_cons_drop, if_pos h, List.eraseIdx_eq_take_drop_succ];exact List.perm_middle
structure Sg (α : Type) where
  A : Option Addr
  c : Nat
  l : List α
def Sg.val {α : Type} (s : Sg α) : Value := .slice s.A s.l.length s.c
def Sg.nil (α : Type) : Sg α := ⟨none, 0, []⟩
def Sg.pc {α : Type} (e : TypeId) (size : Nat) (enc : List α -> List Value) (s : Sg α) : Pc := .row (.slice s.A s.l.length s.c) e size s.l.length (enc s.l)
def KI {α : Type} (e : TypeId) (size : Nat) (enc : List α -> List Value) (ss : List (Sg α)) : List Pc := ss.map (Sg.pc e size enc)
section
variable {α : Type} {e : TypeId} {size : Nat} {enc : List α -> List Value} {w0 : Base} {w : World} {P : List Pc} {ss : List (Sg α)} {s : Sg α} {k : Nat}
theorem KoQ (ss : List (Sg α)) : K7 (KI e size enc ss) = true := by
  simp only [K7, KI, List.all_map, List.all_eq_true];intro s _
  rfl
theorem Pm.segOut (h : Pm w0 (P ++ KI e size enc ss) w) (hk : ss[k]? = some s) : Pm w0 ((.row (.slice s.A s.l.length s.c) e size s.l.length (enc s.l) :: P) ++ KI e size enc (ss.eraseIdx k)) w := by
  refine h.permute ?_;have h1 : (KI e size enc ss).Perm (KI e size enc (s :: ss.eraseIdx k)) := (KeW hk).map _;exact (List.Perm.append_left P h1).trans List.perm_middle
theorem Pm.head {w0 : Base} {w : World} {P Q : List Pc} (h : Pm w0 (P ++ Q) w) : Pm w0 P w := h.sel (List.sublist_append_left _ _)
theorem KcB {w0 : Base} {L : List Pc} {A : Option Addr} {n c : Nat} {xs : List Value} {e : TypeId} {size : Nat} (h : Pm w0 L w) (hk : L[k]? = some (.row (.slice A n c) e size n xs)) (hn : 0 < n) : ∃ g, A = some ⟨g, 0, none⟩ := by
  rcases (h.at_ hk).2 with ⟨e1, h2⟩ | ⟨g, cap, cur, a, r⟩
  · cases e1; omega
  · cases a; exact ⟨g, rfl⟩
end
section
variable {P : Program} {N : Fr} {Q : Exit -> Act -> World -> Prop} {E : Env} {ops : Array Oper} {l : List Oper} {o : Oper} {I : World -> Prop}
theorem Kiu {t : TypeId} (ht : P.underlying t = some .bool) {x y : Operand} (a b : Bool) (w : World) : (do eqGuard .eql t x y (.bool a) (.bool b); binOp .eql t (.bool a) (.bool b) : Sem Value).run P w = .ok (.bool (a == b)) w := by
  have h : (eqGuard .eql t x y (.bool a) (.bool b) : Sem Unit).run P w = .ok () w := by simp [eqGuard, go_sem]
  have h2 : (binOp .eql t (.bool a) (.bool b) : Sem Value).run P w = .ok (.bool (a == b)) w := by
    have e : (Op.equalIn Op.maxDepth t (.bool a) (.bool b)).run P w = .ok (a == b) w := by
      rw [show Op.maxDepth = 9999 + 1 from rfl];exact run_equalIn_bool w 9999 t a b ht
    simp [binOp, Op.equal, go_sem, e]
  simp only [Sem.run_bind, h, Result.andThen_ok, h2]
end
def Kb {α : Type} (c : α -> List Value) (l : List α) : List Value := l.flatMap c
structure Cel {α : Type} (c : α -> List Value) (k : Nat) : Prop where
  len : ∀ x, (c x).length = k
  one : ∀ x, ∀ u ∈ c x, u.oneCell' = true
def ic (q : IntKind) (a : Int) : List Value := [.int q a]
theorem Kn (q : IntKind) : Cel (ic q) 1 := ⟨fun _ => rfl, fun x u hu => by cases List.mem_singleton.1 hu; rfl⟩
def sgc {α : Type} (s : Sg α) : List Value := [s.val]
theorem Kap {α : Type} : Cel (sgc (α := α)) 1 := ⟨fun _ => rfl, fun x u hu => by cases List.mem_singleton.1 hu; rfl⟩
theorem Kam (q : IntKind) (xs : List Int) : Kb (ic q) xs = xs.map (Value.int q) := by
  induction xs with
  | nil => rfl
  | cons a l ih => show _ :: Kb (ic q) l = _; rw [ih]; rfl
section
variable {α : Type} {c : α -> List Value} {k : Nat}
theorem KD (a b : List α) : Kb c (a ++ b) = Kb c a ++ Kb c b := by simp [Kb]
theorem KeH (a : α) (b : List α) : Kb c (a :: b) = c a ++ Kb c b := rfl
theorem Kn3 (a : α) : Kb c [a] = c a := by simp [Kb]
theorem KR (K : Cel c k) (l : List α) : (Kb c l).length = l.length * k := by
  induction l with
  | nil => simp [Kb]
  | cons f l ih => rw [KeH, List.length_append, ih, K.len, List.length_cons, Nat.succ_mul, Nat.add_comm]
theorem Keq (K : Cel c k) : ∀ {l : List α} {i : Nat} {x : α} (h : l[i]? = some x) (j : Nat) (hj : j < k), (Kb c l)[i * k + j]? = (c x)[j]?
  | [], _, _, h, _, _ => by cases h
  | y :: l, 0, x, h, j, hj => by
    obtain rfl : y = x := by simpa using h
    rw [KeH, Nat.zero_mul, Nat.zero_add, List.getElem?_append_left (by rw [K.len]; exact hj)]
  | y :: l, i + 1, x, h, j, hj => by
    rw [KeH, List.getElem?_append_right (by rw [K.len, Nat.succ_mul]; omega), K.len, show (i + 1) * k + j - k = i * k + j by rw [Nat.succ_mul]; omega];exact Keq K (by simpa using h) j hj
theorem KN (K : Cel c k) {l : List α} {i : Nat} {x : α} (h : l[i]? = some x) {w : World} {b o : Nat} (hc : ∀ (j : Nat) (u : Value), (Kb c l)[j]? = some u -> w.cell? ⟨b, o + j, none⟩ = some u) (j : Nat) (u : Value) (hu : (c x)[j]? = some u) : w.cell? ⟨b, o + i * k + j, none⟩ = some u := by
  have hj : j < k := by have := (List.getElem?_eq_some_iff.1 hu).1; rwa [K.len] at this
  rw [Nat.add_assoc];exact hc _ u (by rw [Keq K h j hj]; exact hu)
theorem KB (K : Cel c k) (l : List α) : ∀ u ∈ Kb c l, u.oneCell' = true := by
  intro u hu;simp only [Kb, List.mem_flatMap] at hu;obtain ⟨f, _, hu⟩ := hu;exact K.one f u hu
theorem KL (K : Cel c k) {w0 : Base} {L : List Pc} {w : World} {q g n cc i : Nat} {e : TypeId} {l : List α} {x : α} (h : Pm w0 L w) (hk : L[q]? = some (.row (.slice (some ⟨g, 0, none⟩) n cc) e k n (Kb c l))) (hx : l[i]? = some x) (j : Nat) (u : Value) (hu : (c x)[j]? = some u) : w.cell? ⟨g, 0 + i * k + j, none⟩ = some u := by
  have hj : j < k := by have := (List.getElem?_eq_some_iff.1 hu).1; rwa [K.len] at this
  rw [Nat.zero_add];exact Kj0 h hk (by rw [Keq K hx j hj]; exact hu)
theorem Kgn (K : Cel c k) (l : List α) (i : Nat) : (Kb c l).take (i * k) = Kb c (l.take i) := by
  induction l generalizing i with
  | nil => simp [Kb]
  | cons f l ih =>
    cases i with
    | zero => rw [Nat.zero_mul]; rfl
    | succ i => rw [KeH, List.take_append, List.take_of_length_le (by rw [K.len, Nat.succ_mul]; omega), K.len, show (i + 1) * k - k = i * k by rw [Nat.succ_mul]; omega, ih]; rfl
theorem KkW (K : Cel c k) {m : List α} {i : Nat} {x : α} (hx : m[i]? = some x) : Kb c m = Kb c (m.take i) ++ c x ++ Kb c (m.drop (i + 1)) /\ (Kb c (m.take i)).length = i * k := by
  obtain ⟨hlt, e⟩ := List.getElem?_eq_some_iff.1 hx;refine ⟨?_, by rw [KR K, List.length_take, Nat.min_eq_left (by omega)]⟩;have h1 : m = m.take i ++ x :: m.drop (i + 1) := by rw [<- e, List.getElem_cons_drop, List.take_append_drop]
  rw [<- Kn3 (c := c) x, <- KD, <- KD];rw [List.append_assoc];exact congrArg (Kb c) h1
theorem Koz {P c T v : List Value} {k q : Nat} (hP : P.length = k) (hq : q + v.length <= c.length) : (P ++ c ++ T).take (0 + k + q) ++ v ++ (P ++ c ++ T).drop (0 + k + q + v.length) = P ++ (c.take q ++ v ++ c.drop (q + v.length)) ++ T := by
  subst hP
  have h1 : (P ++ c ++ T).take (0 + P.length + q) = P ++ c.take q := by
    rw [List.append_assoc, show 0 + P.length + q = P.length + q by omega, List.take_append, List.take_of_length_le (by omega), Nat.add_sub_cancel_left, List.take_append_of_le_length (by omega)]
  have h2 : (P ++ c ++ T).drop (0 + P.length + q + v.length) = c.drop (q + v.length) ++ T := by
    rw [List.append_assoc, show 0 + P.length + q + v.length = P.length + (q + v.length) by omega, <- List.drop_drop, List.drop_left, List.drop_append_of_le_length hq]
  rw [h1, h2];simp only [List.append_assoc]
theorem K3 (K : Cel c k) {m : List α} {i q : Nat} {x y : α} {v : List Value} (hx : m[i]? = some x) (hq : q + v.length <= k) (hy : (c x).take q ++ v ++ (c x).drop (q + v.length) = c y) : (Kb c m).take (0 + i * k + q) ++ v ++ (Kb c m).drop (0 + i * k + q + v.length) = Kb c (m.set i y) := by
  obtain ⟨h1, h2⟩ := KkW K hx;have hlt := (List.getElem?_eq_some_iff.1 hx).1;rw [h1, Koz h2 (by rw [K.len]; exact hq), hy, List.set_eq_take_append_cons_drop, if_pos hlt, KD, List.append_assoc]
  rfl
end
theorem Pm.pickT {w0 : Base} {w : World} {L P' T : List Pc} (h : Pm w0 L w) (n : Nat) (ks : List Nat) (hn : ks.Nodup) (hlt : ∀ k ∈ ks, k < n) (he : ks.map (fun k => L[k]?) = P'.map some) (hT : L.drop n = T) : Pm w0 (P' ++ T) w := by
  subst hT;have hP := h.pick ks hn he;have hL : Pm w0 (L.take n ++ L.drop n) w := by rw [List.take_append_drop]; exact h
  have ha := List.pairwise_append.1 hL.apart;refine ⟨h.bel, fun q hq => (List.mem_append.1 hq).elim (hP.own q) fun h2 => hL.own q (List.mem_append_right _ h2), List.pairwise_append.2 ⟨hP.apart, ha.2.1, fun q hq r hr => ha.2.2 q ?_ r hr⟩, h.oth, h.low⟩;obtain ⟨i, hi⟩ := List.getElem?_of_mem hq;have e := congrArg (fun l => l[i]?) he;simp only [List.getElem?_map, hi, Option.map_some] at e
  cases hk : ks[i]? with
  | none => rw [hk] at e; simp at e
  | some k =>
    rw [hk] at e;simp only [Option.map_some, Option.some.injEq] at e;have hkn := hlt k (List.mem_of_getElem? hk);refine List.mem_of_getElem? (i := k) ?_;rw [List.getElem?_take_of_lt hkn];exact e
theorem KoV {w : World} {B size n : Nat} {A : Option Addr} {xs : List Value} (h : Kd w B size A n xs) (hb : ∀ ad, A = some ad -> ad.block < w.heap.size) : Kd w w.heap.size size A n xs :=
  ⟨h.1, fun hn => by obtain ⟨ad, h1, h2, h3⟩ := h.2 hn; exact ⟨ad, h1, hb ad h1, h3⟩⟩
theorem Kq3 {w0 : Base} {L : List Pc} {w : World} {A : Option Addr} {e : TypeId} {size n c k : Nat} {xs : List Value} (h : Pm w0 L w) (hk : L[k]? = some (.row (.slice A n c) e size n xs)) : ∀ ad, A = some ad -> ad.block < w.heap.size := fun ad hA => by
  subst hA;exact (Pc.lt (h.at_ hk) ad.block rfl).2
theorem Kk {w0 : Base} {L : List Pc} {w : World} {A : Option Addr} {e : TypeId} {size n c k : Nat} {xs : List Value} (h : Pm w0 L w) (hk : L[k]? = some (.row (.slice A n c) e size n xs)) : Kd w w.heap.size size A n xs := by
  obtain ⟨B, h8⟩ := K1 h hk;exact KoV h8 (Kq3 h hk)
theorem Kd.up {w0 : World} {w : World} {size n : Nat} {A : Option Addr} {xs : List Value} (h : Kd w0 w0.heap.size size A n xs) (hb : Below w0.heap.size w0 w) : Kd w w.heap.size size A n xs := (h.below hb).more hb.size
theorem Kd.headF {α : Type} {c : α -> List Value} {k : Nat} (K : Cel c k) {w : World} {B n m : Nat} {A : Option Addr} {l : List α} (h : Kd w B k A n (Kb c l)) (hm : m <= n) : Kd w B k A m (Kb c (l.take m)) := by
  have hl : l.length * k = n * k := by have := h.1; rwa [KR K] at this
  refine ⟨?_, fun hn => ?_⟩
  · rw [<- Kgn K, List.length_take, KR K, hl];exact Nat.min_eq_left (Nat.mul_le_mul_right k hm)
  · obtain ⟨ad, h1, h2, h3⟩ := h.2 (by omega);refine ⟨ad, h1, h2, fun j u hu => h3 j u ?_⟩;rw [<- Kgn K, List.getElem?_take] at hu;split at hu
    · exact hu
    · cases hu
section
variable {P : Program} {N : Fr} {Q : Exit -> Act -> World -> Prop} {E : Env} {I S : World -> Prop} {ops : Array Oper} {l : List Oper} {o : Oper} {f : Nat} {listed : Array Bool}
theorem Kes {g : FuncId} {vs : Array Value} {w : World} {x : Ending} (h : Calls P g vs w fun e w' => e = x /\ w' = w) : Calls P g vs w fun e w' => e = x /\ Below w.heap.size w w' :=
  h.mono fun e w' hh => ⟨hh.1, by rw [hh.2]; exact Below.refl _ _⟩
theorem TC.quietQ {id : Nat} {l : List Oper} (hm : P.follows .mixedOrders = true) (hB : Region.lexB .any l.toArray = true) (hI : ∀ w, I w -> I { w with drawn := w.drawn + 1 })
    (h : TQ P N l.toArray (fun a => ∀ w, I w -> Q .normal a w) l E I) : TC P N Q (.region id l.toArray true) E I := TC.quiet hm hB hI h fun a w ha hw => ha w hw
theorem TQ.fin {ops : Array Oper} (h : TX N Q .normal E I) : TQ P N ops (fun a => ∀ w, I w -> Q .normal a w) [] E I := fun a ha w hw => h a w ha hw
theorem TQ.vsplit {R : Act -> Prop} {d : Nat} {b : Bool} (hg : o.guard = none) (hd : o.dst = some d) (hN : Nat.blt d N.n = true) (hv : Kv P N o E I (.bool b)) (ht : b = true -> TQ P N ops R l ((d, .bool true) :: E) I) (hf : b = false -> TQ P N ops R l ((d, .bool false) :: E) I) : TQ P N ops R (o :: l) E I := by
  cases b with
  | true => exact TQ.val hg hd hN hv (ht rfl)
  | false => exact TQ.val hg hd hN hv (hf rfl)
theorem TS.vsplit {R : Act -> World -> Prop} {d : Nat} {b : Bool} (hg : o.guard = none) (hd : o.dst = some d) (hN : Nat.blt d N.n = true) (hv : Kv P N o E I (.bool b)) (ht : b = true -> TS P N ops R l ((d, .bool true) :: E) I) (hf : b = false -> TS P N ops R l ((d, .bool false) :: E) I) : TS P N ops R (o :: l) E I := by
  cases b with
  | true => exact TS.val hg hd hN hv (ht rfl)
  | false => exact TS.val hg hd hN hv (hf rfl)
theorem TQ.callsplit {w0 : Base} {L : List Pc} {R : Act -> Prop} {d : Nat} {b : Bool} {g : FuncId} {fn : Func} {xs : List Operand} {ts : Array TypeId} {vs : List Value} (hg : o.guard = none) (hd : o.dst = some d) (hN : Nat.blt d N.n = true)
    (ho : o.op = .call { callee := .value (.func g), args := xs.toArray, argTypes := ts }) (hx : evs E xs = some vs) (hf : P.funcs[g]? = some fn) (hn : (fn.name == "runtime.NumGoroutine") = false) (hb : fn.body.isNone = false)
    (hc : ∀ w, Pm w0 L w -> Calls P g vs.toArray w fun e w' => e = .returned (.bool b) /\ Below w.heap.size w w') (ht : b = true -> TQ P N ops R l ((d, .bool true) :: E) (Pm w0 L)) (hff : b = false -> TQ P N ops R l ((d, .bool false) :: E) (Pm w0 L)) : TQ P N ops R (o :: l) E (Pm w0 L) := by
  cases b with
  | true => exact TQ.call hg hd hN ho hx hf hn hb (fun w hw => (hc w hw).mono fun e w' ⟨h1, h2⟩ => ⟨h1, hw.below h2⟩) (ht rfl)
  | false => exact TQ.call hg hd hN ho hx hf hn hb (fun w hw => (hc w hw).mono fun e w' ⟨h1, h2⟩ => ⟨h1, hw.below h2⟩) (hff rfl)
theorem TH.three {o1 o2 o3 : Oper} {l1 l2 l3 : Array Bool} (i j k : Nat) (hi : ops[i]? = some o1) (hj : ops[j]? = some o2) (hk : ops[k]? = some o3) (hr : Region.ready .any ops listed = [i, j, k]) (h1 : listed.setIfInBounds i true = l1) (h2 : listed.setIfInBounds j true = l2) (h3 : listed.setIfInBounds k true = l3) (hg1 : o1.guard = none) (hg2 : o2.guard = none) (hg3 : o3.guard = none)
    (g1 : TL P N ops (Exit.then (Hd P ops S Q f l1) (NoPanic Q)) [o1] E I) (g2 : TL P N ops (Exit.then (Hd P ops S Q f l2) (NoPanic Q)) [o2] E I) (g3 : TL P N ops (Exit.then (Hd P ops S Q f l3) (NoPanic Q)) [o3] E I) : TH P N ops S Q (f + 1) listed E I := fun a w ha hw => by
  subst h1 h2 h3;refine wpAnyH_all hr (by simp) fun m hm => ?_;have : m = i \/ m = j \/ m = k := by simpa using hm
  rcases this with rfl | rfl | rfl
  · exact KfI hi hg1 (g1 a w ha hw)
  · exact KfI hj hg2 (g2 a w ha hw)
  · exact KfI hk hg3 (g3 a w ha hw)
theorem Knw {t : TypeId} (ht : P.underlying t = some .bool) {x y : Operand} (a b : Bool) (w : World) : (do eqGuard .neq t x y (.bool a) (.bool b); binOp .neq t (.bool a) (.bool b) : Sem Value).run P w = .ok (.bool (a != b)) w := by
  have h : (eqGuard .neq t x y (.bool a) (.bool b) : Sem Unit).run P w = .ok () w := by simp [eqGuard, go_sem]
  have h2 : (binOp .neq t (.bool a) (.bool b) : Sem Value).run P w = .ok (.bool (a != b)) w := by
    have e : (Op.equalIn Op.maxDepth t (.bool a) (.bool b)).run P w = .ok (a == b) w := by
      rw [show Op.maxDepth = 9999 + 1 from rfl];exact run_equalIn_bool w 9999 t a b ht
    simp [binOp, Op.equal, go_sem, e];cases a <;> cases b <;> rfl
  simp [h, h2, go_sem]
theorem KhT {P : Program} {m n r : Int} {xt : TypeId} (h0 : 0 <= m) (h1 : 0 < n) (hm : m < 9223372036854775808) (hr : m / n = r) (w : World) : (binOp .quo xt (.int .i64 m) (.int .i64 n)).run P w = .ok (.int .i64 r) w := by rw [<- hr]; exact KbQ h0 h1 hm w
end
section
variable {P : Program} {α : Type} {c : α -> List Value} {k : Nat}
theorem KrO (K : Cel c k) {t e : TypeId} {n : Nat} (ht : P.underlying t = some (.array n e)) (ha : ∀ w : World, (isAgg e).run P w = .ok true w) (hs : ∀ w : World, (sizeOf e).run P w = .ok k w) {l : List α} {i : Nat} {x : α} (hx : l[i]? = some x) (hn : l.length = n) {z : Int} (hz : z = (i : Int)) (w : World) :
    (Instr.index t (.agg (Kb c l).toArray) (.int .i64 z)).run P w = .ok (.agg (c x).toArray) w := by
  subst hz;obtain ⟨hlt, _⟩ := List.getElem?_eq_some_iff.1 hx;have hn' : i < n := by omega
  have hex : List.take k (List.drop (i * k) (Kb c l)) = c x := by
    obtain ⟨h1, h2⟩ := KkW K hx;rw [h1, List.append_assoc, List.drop_append_of_le_length (by omega), List.drop_of_length_le (by omega), List.nil_append, List.take_append_of_le_length (by rw [K.len]; exact Nat.le_refl _), List.take_of_length_le (by rw [K.len]; exact Nat.le_refl _)]
  simp [Instr.index, asIntOf, run_underlying ht, hn', hs, part, ha, go_sem, hex]
end
theorem KfM {P : Program} {t u : TypeId} {k : IntKind} {m : Int} (hu : P.underlying u = some (.int .i64)) {d : TypeDesc} (ht : P.underlying t = some d) (w : World) : (convert t u (.int k m)).run P w = .ok (.int .i64 (IntKind.i64.wrap m)) w := Kmh hu ht w
theorem Ket {P : Program} {N : Fr} {E : Env} {o : Oper} {I : World -> Prop} {x y : Operand} {ts : Array TypeId} {a b : Int} (ho : o.op = .call { callee := .builtin .max, args := #[x, y], argTypes := ts }) (hx : ev E x = some (.int .i64 a)) (hy : ev E y = some (.int .i64 b)) : Kv P N o E I (.int .i64 (max a b)) := fun ac w ha _ => by
  unfold execOp; rw [ho];simp only [resolve, invoke, builtin, Sem.run_bind, Sem.run_pure, Result.andThen_ok, List.map_toArray, List.map_cons, List.map_nil, ha.eval hx, ha.eval hy];simp [go_sem, Builtin.max_, Builtin.max2]
  try omega
def pc2 (p : Int × Int) : List Value := [.int .i64 p.1, .int .i64 p.2]
theorem KgG : Cel pc2 2 := ⟨fun _ => rfl, fun x u hu => by
  simp only [pc2, List.mem_cons, List.not_mem_nil, or_false] at hu;rcases hu with rfl | rfl <;> rfl⟩
def Kl (x y : Int) : Int := if x < y then -1 else if y < x then 1 else 0
def orI : List Int -> Int
  | [] => 0
  | x :: r => if x = 0 then orI r else x
theorem Kbe {x y : Int} : Kl x y = 0 ↔ x = y := by unfold Kl; split <;> (try split) <;> omega
theorem Kax {x y : Int} : Kl x y < 0 ↔ x < y := by unfold Kl; split <;> (try split) <;> omega
theorem KnB {x y : Int} : 0 < Kl x y ↔ y < x := by unfold Kl; split <;> (try split) <;> omega
theorem KfG (x : Int) : Kl x x = 0 := Kbe.2 rfl
def KH (a b : List Int) : Int := orI (List.zipWith Kl a b)
theorem Kdd (x y : Int) (a b : List Int) : KH (x :: a) (y :: b) = if Kl x y = 0 then KH a b else Kl x y := rfl
theorem Kgi : ∀ {a b : List Int}, a.length = b.length -> (KH a b = 0 ↔ a = b)
  | [], [], _ => by simp [KH, orI]
  | x :: a, y :: b, h => by
    rw [Kdd];by_cases e : Kl x y = 0
    · rw [if_pos e, Kgi (by simpa using h), Kbe.1 e];simp
    · rw [if_neg e];exact ⟨fun h => absurd h e, fun h => by cases h; exact absurd (KfG x) e⟩
theorem KhM (a : List Int) : KH a a = 0 := (Kgi rfl).2 rfl
theorem Kcg : ∀ {a b : List Int}, a.length = b.length -> (KH a b < 0 ↔ 0 < KH b a)
  | [], [], _ => by simp [KH, orI]
  | x :: a, y :: b, h => by
    rw [Kdd, Kdd];by_cases e : x = y
    · subst e;rw [if_pos (KfG x), if_pos (KfG x)];exact Kcg (by simpa using h)
    · rw [if_neg (fun h => e (Kbe.1 h)), if_neg (fun h => e (Kbe.1 h).symm), Kax, KnB]
theorem Kex : ∀ {a b c : List Int}, a.length = b.length -> b.length = c.length -> KH a b <= 0 -> KH b c <= 0 -> KH a c <= 0 /\ (KH a b < 0 \/ KH b c < 0 -> KH a c < 0)
  | [], [], [], _, _, _, _ => by simp [KH, orI]
  | x :: a, y :: b, z :: c, h1, h2, h3, h4 => by
    rw [Kdd] at h3 h4 ⊢;rw [Kdd, Kdd];have q1 := @Kbe x y; have q2 := @Kbe y z; have q3 := @Kbe x z;have r1 := @Kax x y; have r2 := @Kax y z; have r3 := @Kax x z;have ih := @Kex a b c (by simpa using h1) (by simpa using h2);by_cases e1 : Kl x y = 0
    · by_cases e2 : Kl y z = 0
      · have e3 : Kl x z = 0 := q3.2 ((q1.1 e1).trans (q2.1 e2));rw [if_pos e1] at h3; rw [if_pos e2] at h4;rw [if_pos e1, if_pos e2, if_pos e3];exact ih h3 h4
      · rw [if_neg e2] at h4;have hxy := q1.1 e1;have e3 : ¬ Kl x z = 0 := fun h => e2 (by rw [q2, <- hxy]; exact q3.1 h);rw [if_pos e1, if_neg e2, if_neg e3];have : Kl x z < 0 := r3.2 (by rw [hxy]; exact r2.1 (by omega));omega
    · rw [if_neg e1] at h3;have hxy : x < y := r1.1 (by omega)
      have hyz : y <= z := by
        by_cases e2 : Kl y z = 0
        · have := q2.1 e2; omega
        · rw [if_neg e2] at h4;have := r2.1 (by omega); omega
      have hxz : Kl x z < 0 := r3.2 (by omega);rw [if_neg e1, if_neg (by omega : ¬ Kl x z = 0)];omega
def Km (l : List Int) : Prop := ∀ x ∈ l, 0 <= x /\ x < 1073741824
def Ka : List Int -> Int
  | [] => 0
  | x :: l => x + 1073741824 * Ka l
def Nrm (l : List Int) : Prop := Km l /\ l.getLast? ≠ some 0
def pB (n : Nat) : Int := 1073741824 ^ n
theorem Kez : pB 0 = 1 := rfl
theorem Kac (n : Nat) : pB (n + 1) = 1073741824 * pB n := by unfold pB; rw [Int.pow_succ, Int.mul_comm]
theorem KV (n : Nat) : 0 < pB n := by
  induction n with
  | zero => decide
  | succ n ih => rw [Kac]; omega
theorem Kc8 (m n : Nat) : pB (m + n) = pB m * pB n := by unfold pB; rw [Int.pow_add]
theorem Kan {m n : Nat} (h : m <= n) : pB m <= pB n := by
  induction n with
  | zero => obtain rfl : m = 0 := by omega
            exact Int.le_refl _
  | succ n ih =>
    rcases Nat.lt_or_ge m (n + 1) with h1 | h1
    · have h2 := ih (by omega);have h3 := KV n;rw [Kac]; omega
    · obtain rfl : m = n + 1 := by omega
      exact Int.le_refl _
theorem Km.nil : Km [] := fun x h => absurd h List.not_mem_nil
theorem Km.app {a b : List Int} (h : Km a) (h' : Km b) : Km (a ++ b) := fun x hx => (List.mem_append.1 hx).elim (h x) (h' x)
theorem Km.cons {x : Int} {l : List Int} (hx : 0 <= x /\ x < 1073741824) (h : Km l) : Km (x :: l) := fun y hy => (List.mem_cons.1 hy).elim (fun e => e ▸ hx) (h y)
theorem Km.take {l : List Int} (h : Km l) (n : Nat) : Km (l.take n) := fun x hx => h x (List.mem_of_mem_take hx)
theorem Km.drop {l : List Int} (h : Km l) (n : Nat) : Km (l.drop n) := fun x hx => h x (List.mem_of_mem_drop hx)
theorem Km.set {l : List Int} (h : Km l) {i : Nat} {x : Int} (hx : 0 <= x /\ x < 1073741824) : Km (l.set i x) := fun y hy => (List.mem_or_eq_of_mem_set hy).elim (h y) fun e => e ▸ hx
theorem Km.zeros (n : Nat) : Km (List.replicate n 0) := fun x hx => by rw [List.eq_of_mem_replicate hx]; decide
theorem Km.at_ {l : List Int} (h : Km l) {i : Nat} {x : Int} (hx : l[i]? = some x) : 0 <= x /\ x < 1073741824 := h x (List.mem_of_getElem? hx)
theorem Km.getD {l : List Int} (h : Km l) (i : Nat) : 0 <= l.getD i 0 /\ l.getD i 0 < 1073741824 := by
  rw [List.getD_eq_getElem?_getD]
  cases hx : l[i]? with
  | none => decide
  | some x => exact h.at_ hx
theorem Kz : ∀ {l : List Int}, Km l -> 0 <= Ka l
  | [], _ => Int.le_refl _
  | x :: l, h => by
    have h1 := h x List.mem_cons_self;have h2 := Kz fun y hy => h y (List.mem_cons_of_mem _ hy);show 0 <= x + 1073741824 * Ka l;omega
theorem KaF : ∀ {l : List Int}, Km l -> Ka l < pB l.length
  | [], _ => by decide
  | x :: l, h => by
    have h1 := h x List.mem_cons_self;have h2 := KaF (l := l) fun y hy => h y (List.mem_cons_of_mem _ hy);show x + 1073741824 * Ka l < pB (l.length + 1);rw [Kac];omega
theorem Kg5 (a b : List Int) : Ka (a ++ b) = Ka a + pB a.length * Ka b := by
  induction a with
  | nil => show Ka b = 0 + pB 0 * Ka b; rw [Kez]; omega
  | cons x a ih =>
    show x + 1073741824 * Ka (a ++ b) = x + 1073741824 * Ka a + pB (a.length + 1) * Ka b;rw [ih, Kac, Int.mul_assoc];omega
theorem Khr (n : Nat) : Ka (List.replicate n 0) = 0 := by
  induction n with
  | zero => rfl
  | succ n ih => rw [List.replicate_succ]; show 0 + 1073741824 * Ka _ = 0; rw [ih]; rfl
theorem Kar (l : List Int) (i : Nat) : Ka (l.take (i + 1)) = Ka (l.take i) + pB i * l.getD i 0 := by
  rw [List.take_add_one, Kg5, List.getD_eq_getElem?_getD]
  cases hx : l[i]? with
  | none => simp [Ka]
  | some x =>
    have hlt := (List.getElem?_eq_some_iff.1 hx).1;rw [List.length_take, Nat.min_eq_left (by omega)];show _ + _ * (x + 1073741824 * 0) = _ + _ * x;rw [Int.mul_zero, Int.add_zero]
theorem Kbd (l : List Int) (i : Nat) : Ka (l.drop i) = l.getD i 0 + 1073741824 * Ka (l.drop (i + 1)) := by
  rw [List.getD_eq_getElem?_getD]
  cases hx : l[i]? with
  | none =>
    have h := List.getElem?_eq_none_iff.1 hx;rw [List.drop_of_length_le h, List.drop_of_length_le (by omega)]; rfl
  | some x =>
    obtain ⟨hlt, rfl⟩ := List.getElem?_eq_some_iff.1 hx;rw [List.drop_eq_getElem_cons hlt]; rfl
theorem Kcq (l : List Int) (i : Nat) (h : i <= l.length) : Ka l = Ka (l.take i) + pB i * Ka (l.drop i) := by
  have h1 := Kg5 (l.take i) (l.drop i);rw [List.take_append_drop, List.length_take, Nat.min_eq_left h] at h1;exact h1
theorem KcU {l : List Int} {i : Nat} (h : i < l.length) (x : Int) : Ka (l.set i x) = Ka l + pB i * (x - l.getD i 0) := by
  induction l generalizing i with
  | nil => exact absurd h (Nat.not_lt_zero _)
  | cons y l ih =>
    cases i with
    | zero => show x + 1073741824 * Ka l = y + 1073741824 * Ka l + pB 0 * (x - y); rw [Kez]; omega
    | succ i =>
      show y + 1073741824 * Ka (l.set i x) = y + 1073741824 * Ka l + pB (i + 1) * (x - l.getD i 0);rw [ih (by simpa using h), Kac, Int.mul_assoc]; omega
theorem Nrm.nil : Nrm [] := ⟨Km.nil, by simp⟩
theorem Nrm.pos {l : List Int} (h : Nrm l) (hl : 0 < l.length) : pB (l.length - 1) <= Ka l := by
  obtain ⟨h1, h2⟩ := h;have h3 := Kcq l (l.length - 1) (by omega)
  have h4 : l.drop (l.length - 1) = [l[l.length - 1]] := by
    rw [List.drop_eq_getElem_cons (by omega), List.drop_of_length_le (by omega)]
  rw [h4] at h3;have h5 : l[l.length - 1] ≠ 0 := fun e => h2 (by rw [List.getLast?_eq_getElem?, List.getElem?_eq_getElem (by omega), e]);have h6 := h1 _ (List.getElem_mem (by omega : l.length - 1 < l.length));have h7 := Kz (h1.take (l.length - 1));have h8 := KV (l.length - 1);have h9 : Ka [l[l.length - 1]] = l[l.length - 1] := by show _ + 1073741824 * 0 = _; omega
  rw [h9] at h3;have h10 : pB (l.length - 1) * 1 <= pB (l.length - 1) * l[l.length - 1] := Int.mul_le_mul_of_nonneg_left (by omega) (by omega);omega
theorem Nrm.zero {l : List Int} (h : Nrm l) : Ka l = 0 ↔ l = [] := by
  constructor
  · intro e;rcases Nat.eq_zero_or_pos l.length with h1 | h1
    · exact List.eq_nil_of_length_eq_zero h1
    · have := h.pos h1;have := KV (l.length - 1);omega
  · rintro rfl; rfl
theorem Nrm.lt_len {a b : List Int} (ha : Km a) (hb : Nrm b) (h : a.length < b.length) : Ka a < Ka b := by
  have h1 := KaF ha;have h2 := hb.pos (by omega);have h3 := Kan (show a.length <= b.length - 1 by omega);omega
theorem Kfa {a b : List Int} {i : Nat} (ha : Km a) (hb : Km b) (hl : a.length = b.length) (hi : i < a.length) (hd : a.drop (i + 1) = b.drop (i + 1)) (h : a.getD i 0 < b.getD i 0) : Ka a < Ka b := by
  have h1 := Kcq a i (by omega);have h2 := Kcq b i (by omega);rw [Kbd a i] at h1;rw [Kbd b i, <- hd] at h2;have h3 := KaF (ha.take i);have h4 := Kz (hb.take i);rw [List.length_take, Nat.min_eq_left (by omega)] at h3;have h5 := KV i;have h6 : pB i * (a.getD i 0 + 1 + 1073741824 * Ka (a.drop (i + 1))) <= pB i * (b.getD i 0 + 1073741824 * Ka (a.drop (i + 1))) := Int.mul_le_mul_of_nonneg_left (by omega) (by omega)
  have h7 : pB i * (a.getD i 0 + 1 + 1073741824 * Ka (a.drop (i + 1))) = pB i * (a.getD i 0 + 1073741824 * Ka (a.drop (i + 1))) + pB i := by
    rw [show a.getD i 0 + 1 + 1073741824 * Ka (a.drop (i + 1)) = (a.getD i 0 + 1073741824 * Ka (a.drop (i + 1))) + 1 by omega, Int.mul_add, Int.mul_one]
  omega
theorem Nrm.eq {a b : List Int} (ha : Nrm a) (hb : Nrm b) (h : Ka a = Ka b) : a = b := by
  have hl : a.length = b.length := by
    rcases Nat.lt_trichotomy a.length b.length with h1 | h1 | h1
    · have := Nrm.lt_len ha.1 hb h1; omega
    · exact h1
    · have := Nrm.lt_len hb.1 ha h1; omega
  have key : ∀ k, k <= a.length -> a.drop (a.length - k) = b.drop (a.length - k) := by
    intro k
    induction k with
    | zero => intro _; rw [List.drop_of_length_le (by omega), List.drop_of_length_le (by omega)]
    | succ k ih =>
      intro hk;have h1 := ih (by omega);rw [show a.length - k = (a.length - (k + 1)) + 1 by omega] at h1;have hi : a.length - (k + 1) < a.length := by omega
      generalize a.length - (k + 1) = i at h1 hi ⊢
      have he : a.getD i 0 = b.getD i 0 := by
        rcases Int.lt_trichotomy (a.getD i 0) (b.getD i 0) with h2 | h2 | h2
        · have := Kfa ha.1 hb.1 hl hi h1 h2; omega
        · exact h2
        · have := Kfa hb.1 ha.1 hl.symm (by omega) h1.symm h2; omega
      rw [List.drop_eq_getElem_cons hi, List.drop_eq_getElem_cons (by omega : i < b.length), h1];rw [List.getD_eq_getElem?_getD, List.getD_eq_getElem?_getD, List.getElem?_eq_getElem hi, List.getElem?_eq_getElem (by omega : i < b.length)] at he;simp only [Option.getD_some] at he;rw [he]
  have := key a.length (Nat.le_refl _)
  simpa using this
def Ki (l : List Int) : List Int := match l with
  | [] => []
  | x :: l => if Ki l = [] /\ x = 0 then [] else x :: Ki l
theorem Kao (l : List Int) : Ki l = l.take (Ki l).length /\ (Ki l).length <= l.length /\ Ka (Ki l) = Ka l /\ (Ki l).getLast? ≠ some 0 := by
  induction l with
  | nil => exact ⟨rfl, Nat.le_refl _, rfl, by simp [Ki]⟩
  | cons x l ih =>
    obtain ⟨h1, h2, h3, h4⟩ := ih;unfold Ki;split
    · rename_i h;refine ⟨by simp, by simp, ?_, by simp⟩;show 0 = x + 1073741824 * Ka l;rw [<- h3, h.1, h.2]; rfl
    · rename_i h;refine ⟨by rw [List.length_cons, List.take_succ_cons, <- h1], by rw [List.length_cons, List.length_cons]; omega, ?_, ?_⟩
      · show x + 1073741824 * Ka (Ki l) = x + 1073741824 * Ka l;rw [h3]
      · intro hl
        cases ht : Ki l with
        | nil => rw [ht] at hl h; simp at hl; exact h ⟨rfl, hl⟩
        | cons y m => rw [ht, List.getLast?_cons_cons] at hl; rw [ht] at h4; exact h4 hl
theorem Nrm.trim {l : List Int} (h : Km l) : Nrm (Ki l) /\ Ka (Ki l) = Ka l := by
  obtain ⟨h1, h2, h3, h4⟩ := Kao l;exact ⟨⟨by rw [h1]; exact h.take _, h4⟩, h3⟩
theorem Ksm (l : List Int) : Ki (l ++ [0]) = Ki l := by
  induction l with
  | nil => simp [Ki]
  | cons x l ih => rw [List.cons_append]; show (if _ then _ else _) = (if _ then _ else _); rw [ih]
theorem KjS {l : List Int} (h : l.getLast? ≠ some 0) : Ki l = l := by
  obtain ⟨h1, h2, h3, h4⟩ := Kao l
  induction l with
  | nil => rfl
  | cons x l ih =>
    cases l with
    | nil => simp only [List.getLast?_singleton, ne_eq, Option.some.injEq] at h; simp [Ki, h]
    | cons y m =>
      rw [List.getLast?_cons_cons] at h;obtain ⟨k1, k2, k3, k4⟩ := Kao (y :: m);have h5 := ih h k1 k2 k3 k4;show (if Ki (y :: m) = [] /\ x = 0 then [] else x :: Ki (y :: m)) = _;rw [h5, if_neg (by simp)]
theorem Kde (n k : Nat) : (List.replicate n (0 : Int)).getD k 0 = 0 := by
  rw [List.getD_eq_getElem?_getD]
  cases h : (List.replicate n (0 : Int))[k]? with
  | none => rfl
  | some x => exact List.eq_of_mem_replicate (List.mem_of_getElem? h)
theorem KbU {l : List Int} {i k : Nat} (x : Int) (h : i ≠ k) : (l.set i x).getD k 0 = l.getD k 0 := by
  rw [List.getD_eq_getElem?_getD, List.getD_eq_getElem?_getD, List.getElem?_set_ne h]
theorem KdR {l : List Int} {i : Nat} (x : Int) (h : i < l.length) : (l.set i x).getD i 0 = x := by
  rw [List.getD_eq_getElem?_getD, List.getElem?_set_self h]; rfl
theorem KS {l : List Int} {i : Nat} {x : Int} (h : l[i]? = some x) : l.getD i 0 = x := by rw [List.getD_eq_getElem?_getD, h]; rfl
theorem Kdp {l : List Int} {i : Nat} (h : l.length <= i) : l.getD i 0 = 0 := by rw [List.getD_eq_getElem?_getD, List.getElem?_eq_none h]; rfl
theorem KcG (s : Int) : 0 <= s % 1073741824 /\ s % 1073741824 < 1073741824 := ⟨by omega, by omega⟩
structure SumI (sg : Int) (a b o : List Int) (n i : Nat) (c : Int) : Prop where
  len : o.length = n
  ok : Km o
  zer : ∀ k, i <= k -> o.getD k 0 = 0
  eq : Ka o + pB i * c = Ka (a.take i) + sg * Ka (b.take i)
theorem SumI.start (sg : Int) (a b : List Int) (n : Nat) : SumI sg a b (List.replicate n 0) n 0 0 :=
  ⟨List.length_replicate .., Km.zeros n, fun k _ => Kde n k, by rw [Khr, List.take_zero, List.take_zero]; simp [Ka]⟩
theorem SumI.step {sg : Int} {a b o : List Int} {n i : Nat} {c : Int} (h : SumI sg a b o n i c) (hi : i < n) (s : Int) (hs : s = a.getD i 0 + sg * b.getD i 0 + c) : SumI sg a b (o.set i (s % 1073741824)) n (i + 1) (s / 1073741824) := by
  refine ⟨by rw [List.length_set]; exact h.len, h.ok.set (KcG s), fun k hk => by rw [KbU _ (by omega)]; exact h.zer k (by omega), ?_⟩;rw [KcU (by rw [h.len]; exact hi), h.zer i (Nat.le_refl _), Kar, Kar, Kac];have h1 := h.eq
  have h2 : pB i * s = pB i * a.getD i 0 + sg * (pB i * b.getD i 0) + pB i * c := by
    rw [hs, Int.mul_add, Int.mul_add, Int.mul_left_comm]
  have h3 : pB i * s = pB i * (s % 1073741824) + 1073741824 * (pB i * (s / 1073741824)) := by
    rw [Int.mul_left_comm, <- Int.mul_add]; congr 1; omega
  rw [Int.mul_add, Int.sub_zero, Int.mul_assoc];omega
theorem SumI.full {a b o : List Int} {n : Nat} {c : Int} (h : SumI 1 a b o (n + 1) n c) (ha : a.length <= n) (hb : b.length <= n) (hc : 0 <= c /\ c < 1073741824) : Km (o.set n c) /\ Ka (o.set n c) = Ka a + Ka b /\ (o.set n c).length = n + 1 := by
  refine ⟨h.ok.set hc, ?_, by rw [List.length_set]; exact h.len⟩;have h1 := h.eq;rw [List.take_of_length_le ha, List.take_of_length_le hb] at h1;rw [KcU (by rw [h.len]; omega), h.zer n (Nat.le_refl _), Int.sub_zero];omega
theorem SumI.carry {a b : List Int} {i : Nat} {c s : Int} (ha : Km a) (hb : Km b) (hc : 0 <= c /\ c <= 1) (hs : s = a.getD i 0 + 1 * b.getD i 0 + c) : 0 <= s /\ s <= 2147483647 /\ 0 <= s / 1073741824 /\ s / 1073741824 <= 1 := by
  have := ha.getD i;have := hb.getD i;omega
theorem SumI.borrow {a b : List Int} {i : Nat} {c s : Int} (ha : Km a) (hb : Km b) (hc : -1 <= c /\ c <= 0) (hs : s = a.getD i 0 + (-1) * b.getD i 0 + c) : -1073741824 <= s /\ s <= 1073741823 /\ -1 <= s / 1073741824 /\ s / 1073741824 <= 0 := by
  have := ha.getD i;have := hb.getD i;omega
theorem SumI.less {a b o : List Int} {c : Int} (h : SumI (-1) a b o a.length a.length c) (hb : b.length <= a.length) (hc : -1 <= c /\ c <= 0) (hle : Ka b <= Ka a) : Ka o = Ka a - Ka b := by
  have h1 := h.eq;rw [List.take_of_length_le (Nat.le_refl _), List.take_of_length_le hb] at h1;have h2 := KaF h.ok;rw [h.len] at h2;rcases (show c = 0 \/ c = -1 by omega) with rfl | rfl
  · rw [Int.mul_zero] at h1; omega
  · have : pB a.length * (-1) = - pB a.length := by omega
    omega
structure MulI (a b o : List Int) (i : Nat) : Prop where
  len : o.length = a.length + b.length
  ok : Km o
  zer : ∀ k, i + b.length <= k -> o.getD k 0 = 0
  eq : Ka o = Ka (a.take i) * Ka b
theorem MulI.start (a b : List Int) : MulI a b (List.replicate (a.length + b.length) 0) 0 :=
  ⟨List.length_replicate .., Km.zeros _, fun k _ => Kde _ k, by rw [Khr, List.take_zero]; simp [Ka]⟩
structure MulJ (a b o : List Int) (i k : Nat) (c : Int) : Prop where
  len : o.length = a.length + b.length
  ok : Km o
  zer : ∀ p, i + b.length <= p -> o.getD p 0 = 0
  c01 : 0 <= c /\ c < 1073741824
  eq : Ka o + pB (i + k) * c = Ka (a.take i) * Ka b + pB i * (a.getD i 0 * Ka (b.take k))
theorem MulI.inner {a b o : List Int} {i : Nat} (h : MulI a b o i) : MulJ a b o i 0 0 :=
  ⟨h.len, h.ok, h.zer, ⟨by decide, by decide⟩, by rw [h.eq, List.take_zero]; simp [Ka]⟩
theorem Kec {x y : Int} (hx : 0 <= x /\ x < 1073741824) (hy : 0 <= y /\ y < 1073741824) : 0 <= x * y /\ x * y <= 1152921502459363329 :=
  ⟨Int.mul_nonneg hx.1 hy.1, Int.le_trans (Int.mul_le_mul_of_nonneg_left (by omega : y <= 1073741823) hx.1) (Int.le_trans (Int.mul_le_mul_of_nonneg_right (by omega : x <= 1073741823) (by decide)) (by decide))⟩
theorem MulJ.rng {a b o : List Int} {i k : Nat} {c x y z : Int} (h : MulJ a b o i k c) (ha : Km a) (hb : Km b) (hx : a[i]? = some x) (hy : b[k]? = some y) (hz : o[i + k]? = some z) : 0 <= x * y /\ x * y <= 1152921502459363329 /\ 0 <= z + x * y + c /\ z + x * y + c <= 1152921504606846975 := by
  have h1 := Kec (ha.at_ hx) (hb.at_ hy);have h2 := h.ok.at_ hz;have h3 := h.c01;omega
theorem MulJ.step {a b o : List Int} {i k : Nat} {c x y z : Int} (h : MulJ a b o i k c) (ha : Km a) (hb : Km b) (hi : i < a.length) (hk : k < b.length) (hx : a[i]? = some x) (hy : b[k]? = some y) (hz : o[i + k]? = some z) (s : Int) (hs : s = z + x * y + c) : MulJ a b (o.set (i + k) (s % 1073741824)) i (k + 1) (s / 1073741824) := by
  have hr := h.rng ha hb hx hy hz;refine ⟨by rw [List.length_set]; exact h.len, h.ok.set (KcG s), fun p hp => by rw [KbU _ (by omega)]; exact h.zer p hp, by omega, ?_⟩;rw [KcU (by rw [h.len]; omega), KS hz, Kar, KS hy];have h1 := h.eq;rw [KS hx] at h1 ⊢;have h2 : pB (i + k) * s = pB (i + k) * z + pB (i + k) * (x * y) + pB (i + k) * c := by rw [hs, Int.mul_add, Int.mul_add]
  have h3 : pB (i + k) * s = pB (i + k) * (s % 1073741824) + 1073741824 * (pB (i + k) * (s / 1073741824)) := by
    rw [Int.mul_left_comm, <- Int.mul_add]; congr 1; omega
  have h4 : pB i * (x * (Ka (b.take k) + pB k * y)) = pB i * (x * Ka (b.take k)) + pB (i + k) * (x * y) := by
    rw [Int.mul_add, Int.mul_add, Kc8]; congr 1;rw [Int.mul_left_comm x, Int.mul_assoc]
  rw [h4, <- Nat.add_assoc, Kac, Int.mul_sub, Int.mul_assoc];omega
theorem MulJ.done {a b o : List Int} {i : Nat} {c : Int} (h : MulJ a b o i b.length c) (hi : i < a.length) : MulI a b (o.set (i + b.length) c) (i + 1) := by
  have hl := h.len;refine ⟨by rw [List.length_set]; exact h.len, h.ok.set h.c01, fun k hk => by rw [KbU _ (by omega)]; exact h.zer k (by omega), ?_⟩;rw [KcU (by omega), h.zer _ (Nat.le_refl _), Int.sub_zero, Kar, h.eq, List.take_of_length_le (Nat.le_refl _), Int.add_mul, Int.mul_assoc]
theorem MulI.full {a b o : List Int} {i : Nat} (h : MulI a b o i) (hi : a.length <= i) : Ka o = Ka a * Ka b := by
  have h1 := h.eq;rwa [List.take_of_length_le hi] at h1
structure Lead (hi nx th ld sc D ru rv U V t : Int) : Prop where
  hD : 0 < D
  hru : 0 <= ru /\ ru < D
  hrv : 0 <= rv /\ rv < D
  hld : 0 < ld
  hsc : 0 <= sc /\ sc < 1073741824
  hth : 0 <= th /\ th < 1073741824
  hnx : 0 <= nx /\ nx < 1073741824
  hhi : 0 <= hi /\ hi <= ld
  hU : U = (hi * 1073741824 + nx) * (1073741824 * D) + th * D + ru
  hV : V = ld * (1073741824 * D) + sc * D + rv
  ht : 0 <= t /\ t < 1073741824
  hlo : t * V <= U
  hup : U < (t + 1) * V
section
variable {hi nx th ld sc D ru rv U V t q r : Int}
theorem Lead.vpos (h : Lead hi nx th ld sc D ru rv U V t) : ld * (1073741824 * D) <= V /\ 1073741824 * D <= V := by
  have h1 := h.hV;have h2 : 0 <= sc * D := Int.mul_nonneg h.hsc.1 (by have := h.hD; omega);have h3 : 1 * (1073741824 * D) <= ld * (1073741824 * D) := Int.mul_le_mul_of_nonneg_right (by have := h.hld; omega) (by have := h.hD; omega);have := h.hrv;omega
theorem Lead.init (h : Lead hi nx th ld sc D ru rv U V t) : t <= (hi * 1073741824 + nx) / ld := by
  have h1 := h.vpos;have h2 : t * (ld * (1073741824 * D)) <= t * V := Int.mul_le_mul_of_nonneg_left h1.1 h.ht.1
  have h3 : U < (hi * 1073741824 + nx + 1) * (1073741824 * D) := by
    have e : (hi * 1073741824 + nx + 1) * (1073741824 * D) = (hi * 1073741824 + nx) * (1073741824 * D) + 1073741824 * D := by rw [Int.add_mul, Int.one_mul]
    have h4 : th * D <= 1073741823 * D := Int.mul_le_mul_of_nonneg_right (by have := h.hth; omega) (by have := h.hD; omega);have := h.hU;have := h.hru;omega
  have h5 : (t * ld) * (1073741824 * D) < (hi * 1073741824 + nx + 1) * (1073741824 * D) := by
    rw [Int.mul_assoc]; have := h.hlo; omega
  have h6 : t * ld < hi * 1073741824 + nx + 1 := Int.lt_of_mul_lt_mul_right h5 (by have := h.hD; omega);exact Int.le_ediv_of_mul_le h.hld (by omega)
theorem Lead.step (h : Lead hi nx th ld sc D ru rv U V t) (hq : q * ld + r = hi * 1073741824 + nx) (htq : t <= q) (hc : 1073741824 <= q \/ r * 1073741824 + th < q * sc) : t <= q - 1 := by
  rcases hc with hc | hc
  · have := h.ht; omega
  · refine Decidable.by_contra fun hn => ?_;obtain rfl : t = q := by omega
    have h1 : t * ((ld * 1073741824 + sc) * D) <= t * V := Int.mul_le_mul_of_nonneg_left (by
      have e : (ld * 1073741824 + sc) * D = ld * (1073741824 * D) + sc * D := by rw [Int.add_mul, Int.mul_assoc]
      have := h.hV; have := h.hrv; omega) h.ht.1
    have h2 : U < ((hi * 1073741824 + nx) * 1073741824 + th + 1) * D := by
      have e : ((hi * 1073741824 + nx) * 1073741824 + th + 1) * D = (hi * 1073741824 + nx) * (1073741824 * D) + th * D + D := by rw [Int.add_mul, Int.add_mul, Int.one_mul, Int.mul_assoc]
      have := h.hU; have := h.hru; omega
    have h3 : (t * (ld * 1073741824 + sc)) * D < ((hi * 1073741824 + nx) * 1073741824 + th + 1) * D := by
      rw [Int.mul_assoc]; have := h.hlo; omega
    have h4 : t * (ld * 1073741824 + sc) < (hi * 1073741824 + nx) * 1073741824 + th + 1 := Int.lt_of_mul_lt_mul_right h3 (by have := h.hD; omega);have h5 : t * (ld * 1073741824 + sc) = (t * ld) * 1073741824 + t * sc := by rw [Int.mul_add, Int.mul_assoc]
    have h6 : (t * ld) * 1073741824 = (hi * 1073741824 + nx - r) * 1073741824 := by rw [show t * ld = hi * 1073741824 + nx - r by omega]
    omega
theorem Lead.done (h : Lead hi nx th ld sc D ru rv U V t) (hq : q * ld + r = hi * 1073741824 + nx) (hr : 0 <= r) (htq : t <= q) (hc : 1073741824 <= r \/ ¬ (1073741824 <= q \/ r * 1073741824 + th < q * sc)) : q < 1073741824 /\ q <= t + 1 := by
  have hvp := h.vpos;have hD := h.hD;have ht := h.ht
  have hql : q < 1073741824 := by
    rcases hc with hc | hc
    · refine Decidable.by_contra fun hn => ?_;have h1 : 1073741824 * ld <= q * ld := Int.mul_le_mul_of_nonneg_right (by omega) (by have := h.hld; omega);have := h.hhi; have := h.hnx;omega
    · omega
  refine ⟨hql, ?_⟩
  have key : (q - 1) * V <= U := by
    have e1 : (q - 1) * V = q * V - V := by rw [Int.sub_mul, Int.one_mul]
    have e2 : q * V = (q * ld) * (1073741824 * D) + q * sc * D + q * rv := by rw [h.hV, Int.mul_add, Int.mul_add, Int.mul_assoc, Int.mul_assoc]
    have e3 : (q * ld) * (1073741824 * D) = (hi * 1073741824 + nx) * (1073741824 * D) - r * (1073741824 * D) := by
      rw [show q * ld = (hi * 1073741824 + nx) - r by omega, Int.sub_mul]
    have h2 : q * rv <= q * D := Int.mul_le_mul_of_nonneg_left (by have := h.hrv; omega) (by omega);have h3 : q * D <= 1073741824 * D := Int.mul_le_mul_of_nonneg_right (by omega) (by omega);have h4 : 0 <= th * D := Int.mul_nonneg h.hth.1 (by omega);have hU := h.hU;have hru := h.hru;rcases hc with hc | hc
    · have h5 : 1073741824 * (1073741824 * D) <= r * (1073741824 * D) := Int.mul_le_mul_of_nonneg_right hc (by omega);have h6 : q * sc <= 1073741824 * 1073741824 := Int.le_trans (Int.mul_le_mul_of_nonneg_left (by have := h.hsc; omega : sc <= 1073741824) (by omega)) (Int.mul_le_mul_of_nonneg_right (by omega) (by omega));have h7 : q * sc * D <= 1073741824 * 1073741824 * D := Int.mul_le_mul_of_nonneg_right h6 (by omega);have e4 : (1073741824 : Int) * (1073741824 * D) = 1073741824 * 1073741824 * D := by rw [Int.mul_assoc]
      omega
    · have h6 : q * sc <= r * 1073741824 + th := by omega
      have h7 : q * sc * D <= (r * 1073741824 + th) * D := Int.mul_le_mul_of_nonneg_right h6 (by omega);have e4 : (r * 1073741824 + th) * D = r * (1073741824 * D) + th * D := by rw [Int.add_mul, Int.mul_assoc]
      omega
  have h8 : (q - 1) * V < (t + 1) * V := by have := h.hup; omega
  have := Int.lt_of_mul_lt_mul_right h8 (by omega);omega
end
structure SmI (a o : List Int) (b : Int) (i : Nat) (r : Int) : Prop where
  len : o.length = a.length
  ok : Km o
  zer : ∀ k, k < i -> o.getD k 0 = 0
  r01 : 0 <= r /\ r < b
  eq : Ka (a.drop i) = Ka (o.drop i) * b + r
theorem SmI.start {a : List Int} {b : Int} (hb : 0 < b) : SmI a (List.replicate a.length 0) b a.length 0 :=
  ⟨List.length_replicate .., Km.zeros _, fun k _ => Kde _ k, ⟨by decide, hb⟩, by rw [List.drop_of_length_le (Nat.le_refl _), List.drop_of_length_le (by rw [List.length_replicate]; exact Nat.le_refl _)]; simp [Ka]⟩
theorem SmI.rng {a o : List Int} {b : Int} {i : Nat} {r x : Int} (h : SmI a o b (i + 1) r) (ha : Km a) (hb : b <= 1073741824) (hx : a[i]? = some x) : 0 <= r * 1073741824 + x /\ r * 1073741824 + x <= 1152921504606846975 /\ 0 <= (r * 1073741824 + x) / b /\ (r * 1073741824 + x) / b < 1073741824 := by
  have h1 := ha.at_ hx;have h2 := h.r01;refine ⟨by omega, by omega, Int.ediv_nonneg (by omega) (by omega), Int.ediv_lt_of_lt_mul (by omega) ?_⟩;have h3 : (r + 1) * 1073741824 <= b * 1073741824 := Int.mul_le_mul_of_nonneg_right (by omega) (by decide);omega
theorem Kfb {l : List Int} {i : Nat} (x : Int) : (l.set i x).drop (i + 1) = l.drop (i + 1) := by rw [List.drop_set_of_lt (by omega)]
theorem SmI.step {a o : List Int} {b : Int} {i : Nat} {r x : Int} (h : SmI a o b (i + 1) r) (ha : Km a) (hb : b <= 1073741824) (hx : a[i]? = some x) (v : Int) (hv : v = r * 1073741824 + x) : SmI a (o.set i (v / b)) b i (v % b) := by
  have hr := h.rng ha hb hx;have h2 := h.r01;have hi := (List.getElem?_eq_some_iff.1 hx).1;rw [<- hv] at hr;refine ⟨by rw [List.length_set]; exact h.len, h.ok.set ⟨hr.2.2.1, hr.2.2.2⟩, fun k hk => by rw [KbU _ (by omega)]; exact h.zer k (by omega), ⟨Int.emod_nonneg _ (by omega), Int.emod_lt_of_pos _ (by omega)⟩, ?_⟩;rw [Kbd a, Kbd (o.set i _), Kfb, KdR _ (by rw [h.len]; exact hi), KS hx, h.eq, Int.add_mul, Int.mul_assoc];have h3 := Int.emod_add_mul_ediv v b;rw [Int.mul_comm b] at h3;omega
theorem SmI.full {a o : List Int} {b r : Int} (h : SmI a o b 0 r) : Ka a = Ka o * b + r := h.eq
structure ShI (n o : List Int) (P : Int) (i : Nat) : Prop where
  len : o.length = n.length + 1
  ok : Km o
  zer : ∀ k, i < k -> o.getD k 0 = 0
  top : o.getD i 0 < P
  eq : Ka o = Ka (n.take i) * P
theorem ShI.start (n : List Int) {P : Int} (hP : 0 < P) : ShI n (List.replicate (n.length + 1) 0) P 0 :=
  ⟨List.length_replicate .., Km.zeros _, fun k _ => Kde _ k, by rw [Kde]; exact hP, by rw [Khr, List.take_zero]; simp [Ka]⟩
theorem ShI.rng {n o : List Int} {P Q : Int} {i : Nat} {x : Int} (h : ShI n o P i) (hn : Km n) (hPQ : P * Q = 1073741824) (hP : 0 < P) (hQ : 0 < Q) (hx : n[i]? = some x) : 0 <= x * P /\ x * P <= 1152921504606846975 /\ (x * P) % 1073741824 = P * (x % Q) /\ (x * P) / 1073741824 = x / Q /\ 0 <= x / Q /\ x / Q < P /\ 0 <= o.getD i 0 + (x * P) % 1073741824 /\ o.getD i 0 + (x * P) % 1073741824 < 1073741824 := by
  have h1 := hn.at_ hx
  have hPB : P <= 1073741824 := by
    have : P * 1 <= P * Q := Int.mul_le_mul_of_nonneg_left (by omega) (by omega);omega
  have e1 : (x * P) % 1073741824 = P * (x % Q) := by rw [<- hPQ, Int.mul_comm x P, Int.mul_emod_mul_of_pos _ _ hP]
  have e2 : (x * P) / 1073741824 = x / Q := by rw [<- hPQ, Int.mul_comm x P, Int.mul_ediv_mul_of_pos _ _ hP]
  have h2 : 0 <= x % Q := Int.emod_nonneg _ (by omega);have h3 : x % Q < Q := Int.emod_lt_of_pos _ hQ;have h4 : P * (x % Q) <= P * (Q - 1) := Int.mul_le_mul_of_nonneg_left (by omega) (by omega);rw [Int.mul_sub, Int.mul_one, hPQ] at h4;have h5 : 0 <= P * (x % Q) := Int.mul_nonneg (by omega) h2;have h6 := h.ok.getD i;have h7 := h.top;have h8 := Kec h1 ⟨show (0 : Int) <= P - 1 by omega, by omega⟩;rw [Int.mul_sub, Int.mul_one] at h8;refine ⟨by omega, by omega, e1, e2, Int.ediv_nonneg h1.1 (by omega), Int.ediv_lt_of_lt_mul hQ (by rw [hPQ]; exact h1.2), by rw [e1]; omega, by rw [e1]; omega⟩
theorem ShI.step {n o : List Int} {P Q : Int} {i : Nat} {x : Int} (h : ShI n o P i) (hn : Km n) (hPQ : P * Q = 1073741824) (hP : 0 < P) (hQ : 0 < Q) (hx : n[i]? = some x) (s : Int) (hs : s = x * P) : ShI n ((o.set i (o.getD i 0 + s % 1073741824)).set (i + 1) (s / 1073741824)) P (i + 1) := by
  have hi := (List.getElem?_eq_some_iff.1 hx).1;have hr := h.rng hn hPQ hP hQ hx;have hl := h.len;subst hs
  have hPB : P <= 1073741824 := by
    have : P * 1 <= P * Q := Int.mul_le_mul_of_nonneg_left (by omega) (by omega);omega
  refine ⟨by rw [List.length_set, List.length_set]; exact h.len, (h.ok.set ⟨hr.2.2.2.2.2.2.1, hr.2.2.2.2.2.2.2⟩).set (by omega), fun k hk => by rw [KbU _ (by omega), KbU _ (by omega)]; exact h.zer k (by omega), by rw [KdR _ (by rw [List.length_set]; omega)]; omega, ?_⟩;rw [KcU (by rw [List.length_set]; omega), KbU _ (by omega), h.zer (i + 1) (by omega), KcU (by omega), h.eq, Kar, KS hx, Int.add_mul, Kac, Int.sub_zero]
  have h3 : ∀ y : Int, pB i * y = pB i * (y % 1073741824) + 1073741824 * (pB i * (y / 1073741824)) := fun y => by
    rw [Int.mul_left_comm, <- Int.mul_add]; congr 1; omega
  have h3 := h3 (x * P);rw [show o.getD i 0 + x * P % 1073741824 - o.getD i 0 = x * P % 1073741824 by omega, Int.mul_assoc (pB i) x P, Int.mul_assoc];omega
theorem ShI.full {n o : List Int} {P : Int} {i : Nat} (h : ShI n o P i) (hi : n.length <= i) : Ka o = Ka n * P := by
  have h1 := h.eq;rwa [List.take_of_length_le hi] at h1
structure DvI (A : Int) (v u q : List Int) (n m j : Nat) : Prop where
  ulen : u.length = n + m + 1
  uok : Km u
  qlen : q.length = m + 1
  qok : Km q
  qz : ∀ k, k < j -> q.getD k 0 = 0
  eq : A = Ka u + Ka v * (pB j * Ka (q.drop j))
  lt : Ka u < Ka v * pB j
theorem Kif {u : List Int} {k : Nat} (h : Km u) (hlt : Ka u < pB k) : Ka (u.drop k) = 0 := by
  rcases Nat.lt_or_ge k u.length with h1 | h1
  · have h2 := Kcq u k (by omega);have h3 := Kz (h.take k);have h4 := Kz (h.drop k);refine Decidable.by_contra fun hn => ?_;have h5 : pB k * 1 <= pB k * Ka (u.drop k) := Int.mul_le_mul_of_nonneg_left (by omega) (by have := KV k; omega);omega
  · rw [List.drop_of_length_le h1]; rfl
theorem KfH {u : List Int} {k : Nat} (h : Km u) (hz : Ka (u.drop k) = 0) : u.getD k 0 = 0 /\ Ka (u.drop (k + 1)) = 0 := by
  have h1 := Kbd u k;have h2 := h.getD k;have h3 := Kz (h.drop (k + 1));omega
theorem DvI.top {A : Int} {v u q : List Int} {n m j : Nat} (h : DvI A v u q n m (j + 1)) (hv : Ka v < pB n) : Ka u < pB (j + n + 1) /\ Ka (u.drop (j + n + 1)) = 0 := by
  have h1 : Ka u < pB (j + n + 1) := by
    have h2 : Ka v * pB (j + 1) <= pB n * pB (j + 1) := Int.mul_le_mul_of_nonneg_right (by omega) (by have := KV (j + 1); omega);have h3 := h.lt;rw [<- Kc8, show n + (j + 1) = j + n + 1 by omega] at h2;omega
  exact ⟨h1, Kif h.uok h1⟩
theorem DvI.lead {A : Int} {v u q : List Int} {n m j : Nat} (h : DvI A v u q n m (j + 1)) (hjm : j <= m) (hn : 2 <= n) (hvo : Km v) (hvn : v.getD n 0 = 0) (hvl : v.length = n + 1) (hvt : 0 < v.getD (n - 1) 0) :
    Lead (u.getD (j + n) 0) (u.getD (j + n - 1) 0) (u.getD (j + n - 2) 0) (v.getD (n - 1) 0) (v.getD (n - 2) 0) (pB (n - 2)) (Ka ((u.drop j).take (n - 2))) (Ka (v.take (n - 2))) (Ka (u.drop j)) (Ka v) (Ka u / (Ka v * pB j)) := by
  have eV : Ka v = Ka (v.take (n - 2)) + pB (n - 2) * v.getD (n - 2) 0 + pB (n - 1) * v.getD (n - 1) 0 := by
    have h1 := Kar v (n - 2);have h2 := Kar v (n - 1);have h3 := Kar v n;rw [show n - 2 + 1 = n - 1 by omega] at h1;rw [show n - 1 + 1 = n by omega] at h2;rw [List.take_of_length_le (by omega : v.length <= n + 1), hvn] at h3;omega
  have hvlt : Ka v < pB n := by
    have h3 := Kar v n;rw [List.take_of_length_le (by omega : v.length <= n + 1), hvn] at h3;have h4 := KaF (hvo.take n);rw [List.length_take, Nat.min_eq_left (by omega)] at h4;omega
  obtain ⟨htop, hz⟩ := h.top hvlt;have hug : ∀ k, (u.drop j).getD k 0 = u.getD (j + k) 0 := fun k => by rw [List.getD_eq_getElem?_getD, List.getD_eq_getElem?_getD, List.getElem?_drop]
  have eU : Ka (u.drop j) = Ka ((u.drop j).take (n - 2)) + pB (n - 2) * u.getD (j + n - 2) 0 + pB (n - 1) * u.getD (j + n - 1) 0 + pB n * u.getD (j + n) 0 := by
    have h1 := Kar (u.drop j) (n - 2);have h2 := Kar (u.drop j) (n - 1);have h3 := Kar (u.drop j) n;rw [hug] at h1 h2 h3;rw [show n - 2 + 1 = n - 1 by omega, show j + (n - 2) = j + n - 2 by omega] at h1;rw [show n - 1 + 1 = n by omega, show j + (n - 1) = j + n - 1 by omega] at h2
    have h4 : Ka (u.drop j) = Ka ((u.drop j).take (n + 1)) := by
      rcases Nat.lt_or_ge (n + 1) (u.drop j).length with h5 | h5
      · have h6 := Kcq (u.drop j) (n + 1) (by omega);rw [List.drop_drop, show j + (n + 1) = j + n + 1 by omega, hz] at h6;omega
      · rw [List.take_of_length_le h5]
    omega
  have hb1 : pB (n - 1) = 1073741824 * pB (n - 2) := by rw [<- Kac, show n - 2 + 1 = n - 1 by omega]
  have hb2 : pB n = 1073741824 * (1073741824 * pB (n - 2)) := by rw [<- Kac, <- Kac, show n - 2 + 1 + 1 = n by omega]
  have hD := KV (n - 2);have hrv1 := Kz (hvo.take (n - 2));have hrv2 := KaF (hvo.take (n - 2));rw [List.length_take, Nat.min_eq_left (by omega)] at hrv2;have hru1 := Kz ((h.uok.drop j).take (n - 2))
  have hru2 : Ka ((u.drop j).take (n - 2)) < pB (n - 2) := by
    have h1 := KaF ((h.uok.drop j).take (n - 2));have h2 := Kan (show ((u.drop j).take (n - 2)).length <= n - 2 by rw [List.length_take]; omega);omega
  have hV0 : 0 < Ka v := by
    have h1 : pB (n - 1) * 1 <= pB (n - 1) * v.getD (n - 1) 0 := Int.mul_le_mul_of_nonneg_left (by omega) (by have := KV (n - 1); omega);have h2 : 0 <= pB (n - 2) * v.getD (n - 2) 0 := Int.mul_nonneg (by omega) (hvo.getD _).1;have := KV (n - 1);omega
  have hj := KV j;have hVj : 0 < Ka v * pB j := Int.mul_pos hV0 hj;have hu0 := Kz h.uok;have hlow := Kcq u j (by have := h.ulen; omega);have hl0 := Kz (h.uok.take j);have hl1 := KaF (h.uok.take j);rw [List.length_take, Nat.min_eq_left (by have := h.ulen; omega)] at hl1;have hlt := h.lt;rw [Kac, Int.mul_left_comm] at hlt
  have hUB : Ka (u.drop j) < 1073741824 * Ka v := by
    have h1 : Ka (u.drop j) * pB j < (1073741824 * Ka v) * pB j := by
      rw [Int.mul_comm, Int.mul_assoc]; omega
    exact Int.lt_of_mul_lt_mul_right h1 (by omega)
  have hVl : Ka v < (v.getD (n - 1) 0 + 1) * pB (n - 1) := by
    have h1 := Kar v (n - 2);have h2 := KaF (hvo.take (n - 1));rw [show n - 2 + 1 = n - 1 by omega] at h1;rw [List.length_take, Nat.min_eq_left (by omega)] at h2;rw [Int.add_mul, Int.one_mul, Int.mul_comm (v.getD (n - 1) 0)];omega
  have hxn := (h.uok.getD (j + n - 1));have hxt := (h.uok.getD (j + n - 2));have hxh := (h.uok.getD (j + n));refine ⟨hD, ⟨hru1, hru2⟩, ⟨hrv1, hrv2⟩, hvt, hvo.getD _, hxt, hxn, ⟨hxh.1, ?_⟩, ?_, ?_, ⟨Int.ediv_nonneg hu0 (by omega), Int.ediv_lt_of_lt_mul hVj hlt⟩, ?_, ?_⟩
  · have h1 : u.getD (j + n) 0 * pB n < (v.getD (n - 1) 0 + 1) * pB n := by
      have e1 : (v.getD (n - 1) 0 + 1) * pB n = 1073741824 * ((v.getD (n - 1) 0 + 1) * pB (n - 1)) := by
        rw [show pB n = 1073741824 * pB (n - 1) by rw [hb1, hb2], Int.mul_left_comm]
      have e2 : 0 <= pB (n - 2) * u.getD (j + n - 2) 0 := Int.mul_nonneg (by omega) hxt.1;have e3 : 0 <= pB (n - 1) * u.getD (j + n - 1) 0 := Int.mul_nonneg (by omega) hxn.1;rw [Int.mul_comm (u.getD (j + n) 0)];omega
    have := Int.lt_of_mul_lt_mul_right h1 (by have := KV n; omega);omega
  · rw [eU, hb2, hb1, Int.add_mul, Int.mul_comm (pB (n - 2)) (u.getD (j + n - 2) 0), Int.mul_comm (1073741824 * pB (n - 2)) (u.getD (j + n - 1) 0), Int.mul_comm (1073741824 * (1073741824 * pB (n - 2))) (u.getD (j + n) 0), Int.mul_assoc (u.getD (j + n) 0) 1073741824];omega
  · rw [eV, hb1, Int.mul_comm (pB (n - 2)) (v.getD (n - 2) 0), Int.mul_comm (1073741824 * pB (n - 2)) (v.getD (n - 1) 0)];omega
  · have h1 := Int.ediv_mul_le (Ka u) (show Ka v * pB j ≠ 0 by omega)
    have h2 : (Ka u / (Ka v * pB j) * Ka v) * pB j < (Ka (u.drop j) + 1) * pB j := by
      rw [Int.mul_assoc, Int.add_mul, Int.one_mul, Int.mul_comm (Ka (u.drop j))]; omega
    have := Int.lt_of_mul_lt_mul_right h2 (by omega);omega
  · have h1 := Int.lt_ediv_add_one_mul_self (Ka u) hVj
    have h2 : Ka (u.drop j) * pB j < ((Ka u / (Ka v * pB j) + 1) * Ka v) * pB j := by
      rw [Int.mul_assoc, Int.mul_comm (Ka (u.drop j))]; omega
    exact Int.lt_of_mul_lt_mul_right h2 (by omega)
theorem Kjb : ∀ {l : List Int}, (∀ x ∈ l, x = 0) -> Ka l = 0
  | [], _ => rfl
  | x :: l, h => by
    show x + 1073741824 * Ka l = 0;rw [h x List.mem_cons_self, Kjb fun y hy => h y (List.mem_cons_of_mem _ hy)]; rfl
theorem KsI {l : List Int} {p : Nat} (h : ∀ k, p <= k -> l.getD k 0 = 0) : Ka (l.drop p) = 0 := Kjb fun x hx => by
  obtain ⟨k, hk⟩ := List.getElem?_of_mem hx;rw [List.getElem?_drop] at hk;have := h (p + k) (by omega);rwa [KS hk] at this
theorem KoC {l : List Int} (h : Km l) : ∀ {p : Nat}, Ka (l.drop p) = 0 -> ∀ k, p <= k -> l.getD k 0 = 0 := by
  intro p hp k hk
  induction k with
  | zero => obtain rfl : p = 0 := by omega
            exact (KfH h hp).1
  | succ k ih =>
    have key : ∀ d, Ka (l.drop (p + d)) = 0 := fun d => by
      induction d with
      | zero => exact hp
      | succ d ih => exact (KfH h ih).2
    have h1 := key (k + 1 - p);rw [show p + (k + 1 - p) = k + 1 by omega] at h1;exact (KfH h h1).1
theorem Kls {l : List Int} {p : Nat} (h : Km l) (hz : ∀ k, p <= k -> l.getD k 0 = 0) : Ka l < pB p := by
  rcases Nat.lt_or_ge p l.length with h1 | h1
  · have h2 := Kcq l p (by omega);rw [KsI hz, Int.mul_zero] at h2;have h3 := KaF (h.take p);rw [List.length_take, Nat.min_eq_left (by omega)] at h3;omega
  · have h2 := KaF h;have h3 := Kan h1;omega
structure CombI (u0 v o : List Int) (g : Int) (j i : Nat) (c : Int) : Prop where
  len : o.length = u0.length
  ok : Km o
  same : ∀ k, j + i <= k -> o.getD k 0 = u0.getD k 0
  eq : Ka o + pB (j + i) * c = Ka u0 + g * (pB j * Ka (v.take i))
theorem CombI.start {u v : List Int} (h : Km u) (g : Int) (j : Nat) : CombI u v u g j 0 0 := ⟨rfl, h, fun _ _ => rfl, by rw [List.take_zero]; simp [Ka]⟩
theorem CombI.step {u0 v o : List Int} {g c : Int} {j i : Nat} (h : CombI u0 v o g j i c) (hi : j + i < u0.length) (s : Int) (hs : s = o.getD (j + i) 0 + g * v.getD i 0 + c) : CombI u0 v (o.set (j + i) (s % 1073741824)) g j (i + 1) (s / 1073741824) := by
  refine ⟨by rw [List.length_set]; exact h.len, h.ok.set (KcG s), fun k hk => by rw [KbU _ (by omega)]; exact h.same k (by omega), ?_⟩;rw [KcU (by rw [h.len]; exact hi), Kar, <- Nat.add_assoc, Kac];have h1 := h.eq
  have h2 : pB (j + i) * s = pB (j + i) * o.getD (j + i) 0 + g * (pB (j + i) * v.getD i 0) + pB (j + i) * c := by
    rw [hs, Int.mul_add, Int.mul_add, Int.mul_left_comm (pB (j + i)) g]
  have h3 : pB (j + i) * s = pB (j + i) * (s % 1073741824) + 1073741824 * (pB (j + i) * (s / 1073741824)) := by
    rw [Int.mul_left_comm, <- Int.mul_add]; congr 1; omega
  have h4 : g * (pB j * (Ka (v.take i) + pB i * v.getD i 0)) = g * (pB j * Ka (v.take i)) + g * (pB (j + i) * v.getD i 0) := by
    rw [Int.mul_add, Int.mul_add, Kc8]; congr 2; rw [Int.mul_assoc]
  rw [h4, Int.mul_sub, Int.mul_assoc];omega
theorem KrB {x y g c s : Int} (hx : 0 <= x /\ x < 1073741824) (hy : 0 <= y /\ y < 1073741824) (hg : 0 <= g /\ g < 1073741824) (hc : -1073741824 <= c /\ c <= 0) (hs : s = x - g * y + c) : 0 <= g * y /\ g * y <= 1152921502459363329 /\ -1152921503533105153 <= s /\ s <= 1073741823 /\ -1073741824 <= s / 1073741824 /\ s / 1073741824 <= 0 := by
  have h := Kec hg hy;omega
theorem Kqk {x y c s : Int} (hx : 0 <= x /\ x < 1073741824) (hy : 0 <= y /\ y < 1073741824) (hc : 0 <= c /\ c <= 1) (hs : s = x + y + c) : 0 <= s /\ s <= 2147483647 /\ 0 <= s / 1073741824 /\ s / 1073741824 <= 1 := by omega
section
variable {A : Int} {v u q u1 u2 : List Int} {n m j : Nat} {g c c2 : Int}
theorem KrY {l : List Int} {i : Nat} {x : Int} (h : i < l.length) : Ka ((l.set i x).drop i) = x + 1073741824 * Ka (l.drop (i + 1)) := by
  rw [Kbd, Kfb, KdR _ h]
theorem DvI.put (h : DvI A v u q n m (j + 1)) (hjm : j <= m) (hV : 0 < Ka v) (hl : u1.length = u.length) (hok : Km u1) (hu : Ka u1 = Ka u - Ka u / (Ka v * pB j) * (Ka v * pB j)) (ht : 0 <= Ka u / (Ka v * pB j) /\ Ka u / (Ka v * pB j) < 1073741824) : DvI A v u1 (q.set j (Ka u / (Ka v * pB j))) n m j := by
  have hVj : 0 < Ka v * pB j := Int.mul_pos hV (KV j);have hq := h.qlen;refine ⟨by rw [hl]; exact h.ulen, hok, by rw [List.length_set]; exact hq, h.qok.set ht, fun k hk => by rw [KbU _ (by omega)]; exact h.qz k (by omega), ?_, ?_⟩
  · rw [KrY (by omega), hu, h.eq];generalize Ka u / (Ka v * pB j) = t;rw [Kac, Int.mul_add (pB j), Int.mul_add (Ka v), Int.mul_left_comm (pB j) 1073741824, Int.mul_assoc 1073741824 (pB j), Int.mul_comm (pB j) t, <- Int.mul_assoc (Ka v) t, Int.mul_comm (Ka v) t, Int.mul_assoc t];omega
  · have h1 := Int.lt_ediv_add_one_mul_self (Ka u) hVj;rw [Int.add_mul, Int.one_mul] at h1;rw [hu]; omega
theorem DvI.fit (h : DvI A v u q n m (j + 1)) (hjm : j <= m) (hV : 0 < Ka v) (hv : Ka v < pB n) (hvl : v.length = n + 1) (hg : Ka u / (Ka v * pB j) <= g /\ g <= Ka u / (Ka v * pB j) + 1) (hc : CombI u v u1 (-g) j (n + 1) c) :
    (0 <= c -> Ka u1 = Ka u - Ka u / (Ka v * pB j) * (Ka v * pB j) /\ g = Ka u / (Ka v * pB j)) /\ (c < 0 -> g = Ka u / (Ka v * pB j) + 1 /\ (CombI u1 v u2 1 j (n + 1) c2 -> Ka u2 = Ka u - Ka u / (Ka v * pB j) * (Ka v * pB j))) := by
  have hVj : 0 < Ka v * pB j := Int.mul_pos hV (KV j);obtain ⟨htop, hz⟩ := h.top hv;have hz2 := KoC h.uok hz;have hz1 : ∀ k, j + n + 1 <= k -> u1.getD k 0 = 0 := fun k hk => by rw [hc.same k (by omega)]; exact hz2 k hk
  have hb1 := Kls hc.ok hz1;have hn1 := Kz hc.ok;have e := hc.eq;rw [List.take_of_length_le (by omega), <- Nat.add_assoc] at e;have hlo := Int.ediv_mul_le (Ka u) (show Ka v * pB j ≠ 0 by omega);have hup := Int.lt_ediv_add_one_mul_self (Ka u) hVj;generalize ht : Ka u / (Ka v * pB j) = t at *
  have hjn : Ka v * pB j < pB (j + n + 1) := by
    have h1 : Ka v * pB j <= pB n * pB j := Int.mul_le_mul_of_nonneg_right (by omega) (by have := KV j; omega);rw [<- Kc8] at h1;have h2 : pB (n + j) < pB (j + n + 1) := by rw [Kac, Nat.add_comm n j]; have := KV (j + n); omega
    omega
  have hpp := KV (j + n + 1);rw [Int.mul_comm (pB j), Int.add_mul, Int.one_mul] at *;rcases (show g = t \/ g = t + 1 by omega) with rfl | rfl
  · rw [Int.neg_mul] at e
    have hc0 : c = 0 := by
      have h1 : ¬ 1 <= c := fun hh => by
        have : pB (j + n + 1) * 1 <= pB (j + n + 1) * c := Int.mul_le_mul_of_nonneg_left hh (by omega);have := h.uok
        have h5 : 0 <= g * (Ka v * pB j) := by
          have : 0 <= g := by rw [<- ht]; exact Int.ediv_nonneg (Kz h.uok) (by omega)
          exact Int.mul_nonneg this (by omega)
        omega
      have h2 : ¬ c <= -1 := fun hh => by
        have : pB (j + n + 1) * c <= pB (j + n + 1) * (-1) := Int.mul_le_mul_of_nonneg_left hh (by omega);omega
      omega
    subst hc0;rw [Int.mul_zero] at e;exact ⟨fun _ => ⟨by omega, rfl⟩, fun hh => absurd hh (by decide)⟩
  · rw [Int.neg_mul, Int.add_mul, Int.one_mul] at e
    have hc0 : c = -1 := by
      have h1 : ¬ 0 <= c := fun hh => by
        have : 0 <= pB (j + n + 1) * c := Int.mul_nonneg (by omega) hh;omega
      have h2 : ¬ c <= -2 := fun hh => by
        have : pB (j + n + 1) * c <= pB (j + n + 1) * (-2) := Int.mul_le_mul_of_nonneg_left hh (by omega);omega
      omega
    subst hc0;refine ⟨fun hh => absurd hh (by decide), fun _ => ⟨rfl, fun hc2 => ?_⟩⟩;have e2 := hc2.eq;rw [List.take_of_length_le (by omega), <- Nat.add_assoc, Int.one_mul, Int.mul_comm (pB j)] at e2;have hb2 : Ka u2 < pB (j + n + 1) := Kls hc2.ok fun k hk => by rw [hc2.same k (by omega)]; exact hz1 k hk
    have hn2 := Kz hc2.ok
    have h3 : c2 = 1 := by
      have h1 : ¬ 2 <= c2 := fun hh => by
        have : pB (j + n + 1) * 2 <= pB (j + n + 1) * c2 := Int.mul_le_mul_of_nonneg_left hh (by omega);omega
      have h2 : ¬ c2 <= 0 := fun hh => by
        have : pB (j + n + 1) * c2 <= pB (j + n + 1) * 0 := Int.mul_le_mul_of_nonneg_left hh (by omega);omega
      omega
    subst h3;omega
end
theorem KdX (a : Nat) (ha : a < 9223372036854775808) : (BitVec.ofInt 64 (a : Int)).toNat = a := by
  rw [BitVec.ofInt_natCast, BitVec.toNat_ofNat]; exact Nat.mod_eq_of_lt (by omega)
theorem KtU (a b : Nat) (ha : a < 9223372036854775808) (hb : b < 9223372036854775808) : bits .and .i64 (a : Int) (b : Int) = ((a &&& b : Nat) : Int) := by
  have hx : a &&& b < 2 ^ 63 := Nat.and_lt_two_pow _ (by omega);show IntKind.i64.wrap ((BitVec.ofInt 64 (a : Int) &&& BitVec.ofInt 64 (b : Int)).toNat : Int) = _;rw [BitVec.toNat_and, KdX a ha, KdX b hb, IntKind.wrap_i64];omega
theorem KuR (a b : Nat) (ha : a < 9223372036854775808) (hb : b < 9223372036854775808) : bits .or .i64 (a : Int) (b : Int) = ((a ||| b : Nat) : Int) := by
  have hx : a ||| b < 2 ^ 63 := Nat.or_lt_two_pow (by omega) (by omega);show IntKind.i64.wrap ((BitVec.ofInt 64 (a : Int) ||| BitVec.ofInt 64 (b : Int)).toNat : Int) = _;rw [BitVec.toNat_or, KdX a ha, KdX b hb, IntKind.wrap_i64];omega
theorem KsS (m : Int) (h0 : 0 <= m) (h1 : m <= 9223372036854775807) : bits .and .i64 m 1 = m % 2 := by
  obtain ⟨n, rfl⟩ := Int.eq_ofNat_of_zero_le h0;have h := KtU n 1 (by omega) (by omega);have e := Nat.and_one_is_mod n;show bits .and .i64 (n : Int) ((1 : Nat) : Int) = _;rw [h, e]; omega
theorem Kcr (m : Int) (h0 : -9223372036854775808 <= m) (h1 : m <= 9223372036854775807) : bits .and .i64 m 1073741823 = m % 1073741824 := by
  show IntKind.i64.wrap ((BitVec.ofInt 64 m &&& BitVec.ofInt 64 ((1073741823 : Nat) : Int)).toNat : Int) = _;rw [BitVec.toNat_and, KdX 1073741823 (by decide), BitVec.toNat_ofInt, IntKind.wrap_i64];have e : ∀ n : Nat, n &&& 1073741823 = n % 1073741824 := fun n => Nat.and_two_pow_sub_one_eq_mod n 30;rw [e];omega
theorem Kjz (b : Nat) (m x : Int) (h0 : 0 <= m) (hx : 0 <= x) (hx1 : x < 2 ^ b) (h : m * 2 ^ b + x < 9223372036854775808) : bits .or .i64 (m * 2 ^ b) x = m * 2 ^ b + x := by
  obtain ⟨a, rfl⟩ := Int.eq_ofNat_of_zero_le h0;obtain ⟨y, rfl⟩ := Int.eq_ofNat_of_zero_le hx;have e1 : (((a * 2 ^ b : Nat) : Nat) : Int) = (a : Int) * 2 ^ b := by rw [Int.natCast_mul, Int.natCast_pow]; rfl
  rw [<- e1] at h ⊢
  have hy : y < 2 ^ b := by
    have : ((2 ^ b : Nat) : Int) = 2 ^ b := by rw [Int.natCast_pow]; rfl
    rw [<- this] at hx1;exact Int.ofNat_lt.1 hx1
  rw [KuR (a * 2 ^ b) y (by omega) (by omega)];have e2 : 2 ^ b * a + y = 2 ^ b * a ||| y := Nat.two_pow_add_eq_or_of_lt hy a;rw [Nat.mul_comm a, <- e2];omega
theorem Kn1 (a b : Int) : bits .or .i64 a b = bits .or .i64 b a := by
  show IntKind.i64.wrap ((BitVec.ofInt 64 a ||| BitVec.ofInt 64 b).toNat : Int) = IntKind.i64.wrap ((BitVec.ofInt 64 b ||| BitVec.ofInt 64 a).toNat : Int);rw [BitVec.or_comm]
theorem KfW (m x : Int) (h0 : 0 <= m) (h1 : m <= 8589934591) (hx : 0 <= x /\ x < 1073741824) : bits .or .i64 (m * 1073741824) x = m * 1073741824 + x :=
  Kjz 30 m x h0 hx.1 hx.2 (by show m * 1073741824 + x < _; omega)
theorem Pm.shrink {w0 : Base} {w : World} {L : List Pc} {k n c hi size : Nat} {e : TypeId} {A : Option Addr} {xs : List Value} (hw : Pm w0 L w) (hk : L[k]? = some (.row (.slice A n c) e size n xs)) (hh : hi <= n) : Pm w0 (L.set k (.row (.slice A hi c) e size hi (xs.take (hi * size)))) w := by
  have hrow := hw.at_ hk;refine hw.turn hk (World.grownBy.refl w _) ?_ (fun g hg => .inl (by cases A <;> exact hg)) (fun _ _ e => by cases e);obtain ⟨h1, h2⟩ := hrow;refine ⟨?_, ?_⟩
  · rw [List.length_take, h1];exact Nat.min_eq_left (Nat.mul_le_mul_right _ hh)
  · rcases h2 with ⟨e1, h2⟩ | ⟨g, cap, cur, a1, hb, hgg, hn, hm, hs1, ht1⟩
    · cases e1;have : hi = 0 := by omega
      subst this;exact .inl ⟨rfl, rfl⟩
    · cases a1;refine .inr ⟨g, c, cur, rfl, hb, hgg, by omega, hm, hs1, ?_⟩;rw [<- ht1, List.take_take, Nat.min_eq_left (Nat.mul_le_mul_right _ hh)]
theorem Pm.trimR {w0 : Base} {w : World} {n c : Nat} {e : TypeId} {A : Option Addr} {l : List Int} {q : IntKind} (hw : Pm w0 [.row (.slice A n c) e 1 n (Kb (ic q) l)] w) (hl : l.length = n) : Pm w0 [.row (.slice A (Ki l).length c) e 1 (Ki l).length (Kb (ic q) (Ki l))] w := by
  obtain ⟨h1, h2, _, _⟩ := Kao l;have h3 := hw.shrink (k := 0) (hi := (Ki l).length) rfl (by omega)
  have h4 : (Kb (ic q) l).take ((Ki l).length * 1) = Kb (ic q) (Ki l) := by
    rw [Kam, Kam, Nat.mul_one, <- List.map_take, <- h1]
  rw [h4] at h3;exact h3
theorem Kk7 {a : List Int} {k : Nat} {x : Int} (hx : a[k - 1]? = some x) (hk : 0 < k) : a.take k = a.take (k - 1) ++ [x] := by
  have h := @List.take_add_one _ a (k - 1);rw [hx, show k - 1 + 1 = k by omega] at h;exact h
theorem KkL {a : List Int} {k : Nat} {x : Int} (h : Ki a = Ki (a.take k)) (hx : a[k - 1]? = some x) (h0 : x = 0) (hk : 0 < k) : Ki a = Ki (a.take (k - 1)) := by
  rw [h, Kk7 hx hk, h0, Ksm]
theorem KlC {a : List Int} {k : Nat} (h : Ki a = Ki (a.take k)) (hk : k = 0) : (Ki a).length = k := by subst hk; rw [h]; rfl
theorem KjO {a : List Int} {k : Nat} {x : Int} (h : Ki a = Ki (a.take k)) (hx : a[k - 1]? = some x) (h0 : x ≠ 0) (hk : 0 < k) (hl : k <= a.length) : (Ki a).length = k := by
  rw [h, KjS (by rw [Kk7 hx hk, List.getLast?_append]; simpa using h0), List.length_take];omega
theorem Khz {l : List Int} {v : Int} {m : Nat} (h : Km l) (hv : Ka l = v) (hlt : v < pB m) : (Ki l).length <= m := by
  refine Decidable.by_contra fun hn => ?_;obtain ⟨h1, h2⟩ := Nrm.trim h;have h3 := h1.pos (by omega);have h4 := Kan (show m <= (Ki l).length - 1 by omega);omega
theorem Kd4 {x y : Int} (h : x < y) : Kl x y = -1 := if_pos h
theorem KdW {x y : Int} (h : y < x) : Kl x y = 1 := by unfold Kl; rw [if_neg (by omega), if_pos h]
theorem KmE {a b : List Int} (h : a = b) : Kl (Ka a) (Ka b) = 0 := Kbe.2 (by rw [h])
theorem Kms {a b : List Int} (ha : Nrm a) (hb : Nrm b) (h : Kl ((a.length : Nat) : Int) ((b.length : Nat) : Int) ≠ 0) : Kl (Ka a) (Ka b) = Kl ((a.length : Nat) : Int) ((b.length : Nat) : Int) := by
  rcases Nat.lt_trichotomy a.length b.length with h1 | h1 | h1
  · rw [Kd4 (Nrm.lt_len ha.1 hb h1), Kd4 (by omega)]
  · exact absurd (Kbe.2 (by rw [h1])) h
  · rw [KdW (Nrm.lt_len hb.1 ha h1), KdW (by omega)]
theorem Ki2 {a b : List Int} {i : Nat} {x y : Int} (ha : Nrm a) (hb : Nrm b) (hl : a.length = b.length) (hi : i < a.length) (hd : a.drop (i + 1) = b.drop (i + 1)) (hx : a[i]? = some x) (hy : b[i]? = some y) (hne : x ≠ y) : Kl (Ka a) (Ka b) = Kl x y := by
  rcases Int.lt_trichotomy x y with h1 | h1 | h1
  · rw [Kd4 h1, Kd4 (Kfa ha.1 hb.1 hl hi hd (by rw [KS hx, KS hy]; exact h1))]
  · exact absurd h1 hne
  · rw [KdW h1, KdW (Kfa hb.1 ha.1 hl.symm (by omega) hd.symm (by rw [KS hx, KS hy]; exact h1))]
theorem KkO {a b : List Int} {i : Nat} {x y : Int} (hd : a.drop (i + 1) = b.drop (i + 1)) (hx : a[i]? = some x) (hy : b[i]? = some y) (h : x = y) : a.drop i = b.drop i := by
  obtain ⟨h1, rfl⟩ := List.getElem?_eq_some_iff.1 hx;obtain ⟨h2, rfl⟩ := List.getElem?_eq_some_iff.1 hy;rw [List.drop_eq_getElem_cons h1, List.drop_eq_getElem_cons h2, hd, h]
theorem Kn6 {P : Program} {N : Fr} {E : Env} {o : Oper} {I : World -> Prop} {x y : Operand} {ts : Array TypeId} {a b : Nat} (ho : o.op = .call { callee := .builtin .max, args := #[x, y], argTypes := ts }) (hx : ev E x = some (.int .i64 (a : Int))) (hy : ev E y = some (.int .i64 (b : Int))) : Kv P N o E I (.int .i64 ((max a b : Nat) : Int)) := by
  have h : ((max a b : Nat) : Int) = max (a : Int) (b : Int) := by omega
  rw [h];exact Ket ho hx hy
theorem SumI.full0 {a b o : List Int} {n i : Nat} {c : Int} (h : SumI 1 a b o (n + 1) i c) (hi : i = n) (ha : a.length <= n) (hb : b.length <= n) (hc : 0 <= c /\ c <= 1) : Km (o.set n c) /\ Ka (o.set n c) = Ka a + Ka b /\ (o.set n c).length = n + 1 := by
  subst hi;exact h.full ha hb (by omega)
theorem SumI.less0 {a b o : List Int} {i : Nat} {c : Int} (h : SumI (-1) a b o a.length i c) (hi : i = a.length) (hb : b.length <= a.length) (hc : -1 <= c /\ c <= 0) (hle : Ka b <= Ka a) : Ka o = Ka a - Ka b := by
  subst hi;exact h.less hb hc hle
theorem Ke4 {a b : List Int} (ha : Km a) (hb : Nrm b) (h : Ka b <= Ka a) : b.length <= a.length := by
  refine Decidable.by_contra fun hn => ?_;have := Nrm.lt_len ha hb (by omega);omega
structure MKey (P : Program) (k : TypeId) {κ : Type} (enc : κ -> Value) (Ok : κ -> Prop) : Prop where
  keyed : Maps.Keyed P k
  lit : ∀ a, Ok a -> ∃ l, keyOf P k (enc a) = some l
  inj : ∀ a b, enc a = enc b -> a = b
def K8 {κ : Type} (enc : κ -> Value) (Ok : κ -> Prop) (o : Obj) (f : κ -> Option Value) : Prop :=
  ∃ (es : Array MapEntry) (clock : Nat), o = .map es clock /\ (∀ e ∈ es.toList, ∃ a, Ok a /\ e.key = enc a) /\ (es.toList.map (·.key)).Nodup /\ ∀ a v, f a = some v ↔ ∃ e ∈ es.toList, e.key = enc a /\ e.val = v
section
variable {P : Program} {t k e : TypeId} {κ : Type} {enc : κ -> Value} {Ok : κ -> Prop} {o : Obj} {g : Nat} {f : κ -> Option Value} {w : World}
theorem Kgk (enc : κ -> Value) (Ok : κ -> Prop) : K8 enc Ok (.map #[] 0) (fun _ => none) :=
  ⟨#[], 0, rfl, fun e h => absurd h List.not_mem_nil, List.nodup_nil, fun a v => ⟨fun h => by (cases h), fun ⟨e, h, _⟩ => absurd h List.not_mem_nil⟩⟩
theorem K8.find {es : Array MapEntry} {clock : Nat} (h : K8 enc Ok (.map es clock) f) (K : MKey P k enc Ok) {a : κ} (ha : Ok a) (w : World) :
    ((Instr.findKey k (enc a) es.toList).run P w = .ok none w /\ f a = none) \/ ∃ j e, (Instr.findKey k (enc a) es.toList).run P w = .ok (some (j, e.val)) w /\ es[j]? = some e /\ e.key = enc a /\ f a = some e.val := by
  obtain ⟨es', clock', he, hk, hnd, hf⟩ := h;cases he;obtain ⟨l, hl⟩ := K.lit a ha;rcases K.keyed.find w hl es.toList (fun e he => by obtain ⟨b, hb, e1⟩ := hk e he; rw [e1]; exact K.lit b hb) with ⟨h1, h2⟩ | ⟨j, e, h1, h2, h3⟩
  · refine .inl ⟨h1, ?_⟩
    cases hfa : f a with
    | none => rfl
    | some v =>
      obtain ⟨e, he, e1, _⟩ := (hf a v).1 hfa;exact absurd e1 (h2 e he)
  · refine .inr ⟨j, e, h1, by simpa using h2, h3, (hf a e.val).2 ⟨e, List.mem_of_getElem? h2, h3, rfl⟩⟩
theorem K8.look (h : K8 enc Ok o f) (K : MKey P k enc Ok) (ht : P.underlying t = some (.map k e)) {z : Value} (hz : ∀ w : World, (zeroValue e).run P w = .ok z w) (hb : w.heap[g]? = some o) {a : κ} (ha : Ok a) (co : Bool) :
    (Instr.lookup t (.map (some g)) (enc a) co).run P w = .ok (if co then .tuple #[(f a).getD z, .bool (f a).isSome] else (f a).getD z) w := by
  obtain ⟨es, clock, he, _⟩ := id h;subst he;obtain ⟨l, hl⟩ := K.lit a ha;have hck := K.keyed.check w es.isEmpty hl;have hgo : (getObj g).run P w = .ok (.map es clock) w := by simp [getObj, Sem.run, hb]
  unfold Instr.lookup;rcases h.find K ha w with ⟨h1, h2⟩ | ⟨j, e', h1, h2, h3, h4⟩
  · simp [run_underlying ht, hgo, hck, h1, hz, h2]
  · simp [run_underlying ht, hgo, hck, h1, h4]
theorem K8.put (h : K8 enc Ok o f) (K : MKey P k enc Ok) (ht : P.underlying t = some (.map k e)) (hb : w.heap[g]? = some o) {a : κ} (ha : Ok a) (v : Value) [DecidableEq κ] :
    ∃ o' w', (Instr.mapUpdate t (.map (some g)) (enc a) v).run P w = .ok () w' /\ w'.heap[g]? = some o' /\ K8 enc Ok o' (fun x => if x = a then some v else f x) /\ w.grownBy w' (some g) := by
  obtain ⟨es, clock, he, hk, hnd, hf⟩ := id h;subst he;obtain ⟨l, hl⟩ := K.lit a ha;have hck := K.keyed.check w false hl;have hst := K.keyed.stays w hl;have hgo : (getObj g).run P w = .ok (.map es clock) w := by simp [getObj, Sem.run, hb]
  have hlt : g < w.heap.size := (Array.getElem?_eq_some_iff.1 hb).1;have hso : ∀ ob : Obj, (setObj g ob).run P w = .ok () (w.putObj g ob) := fun ob => by simp [setObj, Sem.run, hb, World.putObj]
  rcases h.find K ha w with ⟨h1, h2⟩ | ⟨j, e', h1, h2, h3, h4⟩
  · refine ⟨.map (es.push ⟨enc a, v, clock⟩) (clock + 1), w.putObj g (.map (es.push ⟨enc a, v, clock⟩) (clock + 1)), ?_, ?_, ⟨_, _, rfl, ?_, ?_, ?_⟩, grownBy_putObj' w g _⟩
    · unfold Instr.mapUpdate;simp [run_underlying ht, hgo, hck, h1, hso]
    · simp [World.putObj, hlt]
    · intro e1 he1;simp only [Array.toList_push, List.mem_append, List.mem_singleton] at he1;rcases he1 with he1 | rfl
      · exact hk e1 he1
      · exact ⟨a, ha, rfl⟩
    · simp only [Array.toList_push, List.map_append, List.map_cons, List.map_nil];refine List.nodup_append.2 ⟨hnd, List.pairwise_singleton _ _, fun x hx y hy e1 => ?_⟩;rw [List.mem_singleton] at hy;obtain ⟨e2, he2, e3⟩ := List.mem_map.1 hx;have := (hf a e2.val).2 ⟨e2, he2, by rw [e3, e1, hy], rfl⟩;rw [h2] at this;cases this
    · intro x u;simp only [Array.toList_push, List.mem_append, List.mem_singleton];show (if x = a then some v else f x) = some u ↔ _;by_cases e1 : x = a
      · subst e1;rw [if_pos rfl];constructor
        · intro hu;cases hu;exact ⟨_, .inr rfl, rfl, rfl⟩
        · rintro ⟨e2, he2 | rfl, e3, e4⟩
          · have := (hf x e2.val).2 ⟨e2, he2, e3, rfl⟩;rw [h2] at this;cases this
          · rw [<- e4]
      · rw [if_neg e1, hf];constructor
        · rintro ⟨e2, he2, e3⟩;exact ⟨e2, .inl he2, e3⟩
        · rintro ⟨e2, he2 | rfl, e3⟩
          · exact ⟨e2, he2, e3⟩
          · exact absurd (K.inj _ _ e3.1).symm e1
  · have hjl : j < es.size := (Array.getElem?_eq_some_iff.1 h2).1;refine ⟨.map (es.modify j fun e => { key := enc a, val := v, born := e.born }) clock, w.putObj g (.map (es.modify j fun e => { key := enc a, val := v, born := e.born }) clock), ?_, ?_, ⟨_, _, rfl, ?_, ?_, ?_⟩, grownBy_putObj' w g _⟩
    · unfold Instr.mapUpdate;simp [run_underlying ht, hgo, hck, h1, h2, h3, hst, hso]
    · simp [World.putObj, hlt]
    all_goals
      have hm : (es.modify j fun e => { key := enc a, val := v, born := e.born }).toList = es.toList.set j ⟨enc a, v, e'.born⟩ := by
        refine List.ext_getElem? fun i => ?_;rw [Array.getElem?_toList, Array.getElem?_modify, List.getElem?_set];by_cases e1 : j = i
        · subst e1;rw [if_pos rfl, if_pos rfl, h2, if_pos (by simpa using hjl)]
          rfl
        · rw [if_neg e1, if_neg e1, Array.getElem?_toList]
      rw [hm]
    · intro e1 he1;rcases List.mem_or_eq_of_mem_set he1 with h5 | rfl
      · exact hk e1 h5
      · exact ⟨a, ha, rfl⟩
    · have : (es.toList.set j ⟨enc a, v, e'.born⟩).map (·.key) = es.toList.map (·.key) := by
        rw [List.map_set];refine List.ext_getElem? fun i => ?_;rw [List.getElem?_set];by_cases e1 : j = i
        · subst e1;rw [if_pos rfl, if_pos (by simpa using hjl), List.getElem?_map, Array.getElem?_toList, h2];simp [h3]
        · rw [if_neg e1]
      rw [this];exact hnd
    · have hdist : ∀ i e1, es.toList[i]? = some e1 -> e1.key = enc a -> i = j := fun i e1 hi hk1 => by
        have hi' : i < (es.toList.map (·.key)).length := by rw [List.length_map]; exact (List.getElem?_eq_some_iff.1 hi).1
        refine (List.getElem?_inj hi' hnd).1 ?_;rw [List.getElem?_map, List.getElem?_map, hi, Array.getElem?_toList, h2];simp [hk1, h3]
      intro x u;show (if x = a then some v else f x) = some u ↔ _;by_cases e1 : x = a
      · subst e1;rw [if_pos rfl];constructor
        · intro hu;cases hu;exact ⟨⟨enc x, v, e'.born⟩, List.mem_set (by rw [Array.length_toList]; exact hjl) _, rfl, rfl⟩
        · rintro ⟨e2, he2, e3, e4⟩;obtain ⟨i, hi⟩ := List.getElem?_of_mem he2;rw [List.getElem?_set] at hi;by_cases e5 : j = i
          · rw [if_pos e5, if_pos (by rw [Array.length_toList]; exact hjl)] at hi;cases hi;rw [<- e4]
          · rw [if_neg e5] at hi;exact absurd (hdist i e2 hi e3).symm e5
      · rw [if_neg e1, hf];constructor
        · rintro ⟨e2, he2, e3, e4⟩;obtain ⟨i, hi⟩ := List.getElem?_of_mem he2
          have hij : j ≠ i := fun hh => by
            subst hh;rw [Array.getElem?_toList, h2] at hi;cases hi;rw [h3] at e3;exact e1 (K.inj _ _ e3).symm
          exact ⟨e2, List.mem_of_getElem? (i := i) (by rw [List.getElem?_set, if_neg hij]; exact hi), e3, e4⟩
        · rintro ⟨e2, he2, e3, e4⟩;rcases List.mem_or_eq_of_mem_set he2 with h5 | rfl
          · exact ⟨e2, h5, e3, e4⟩
          · exact absurd (K.inj _ _ e3).symm e1
end
section
variable {P : Program} {N : Fr} {Q : Exit -> Act -> World -> Prop} {E : Env} {w0 : Base} {L : List Pc} {ops : Array Oper} {l : List Oper} {o : Oper} {κ : Type} {enc : κ -> Value} {Ok : κ -> Prop} {t k e : TypeId}
theorem KcF {x y : Operand} {g i : Nat} {ob : Obj} {f : κ -> Option Value} {a : κ} {z : Value} (ho : o.op = .lookup t x y false) (hx : ev E x = some (.map (some g))) (hy : ev E y = some (enc a)) (K : MKey P k enc Ok) (ht : P.underlying t = some (.map k e)) (hz : ∀ w : World, (zeroValue e).run P w = .ok z w) (hk : L[i]? = some (.oth g ob)) (hm : K8 enc Ok ob f) (ha : Ok a) {v : Value} (hv : (f a).getD z = v) :
    Kv P N o E (Pm w0 L) v := fun ac w hac hw => by
  unfold execOp; rw [ho];subst hv;simp [hac.eval hx, hac.eval hy, hm.look K ht hz (hw.at_ hk).1 ha false]
theorem TL.mapsetG {x y z : Operand} {g i : Nat} {ob : Obj} {f : κ -> Option Value} {a : κ} {v : Value} [DecidableEq κ] (hg : o.guard = none) (hd : o.dst = none) (ho : o.op = .mapUpdate t x y z) (hx : ev E x = some (.map (some g))) (hy : ev E y = some (enc a)) (hz : ev E z = some v)
    (K : MKey P k enc Ok) (ht : P.underlying t = some (.map k e)) (hk : L[i]? = some (.oth g ob)) (hnew : Kbu w0 g) (hm : K8 enc Ok ob f) (ha : Ok a)
    (h : ∀ ob', K8 enc Ok ob' (fun x => if x = a then some v else f x) -> TL P N ops Q l E (Pm w0 (L.set i (.oth g ob')))) : TL P N ops Q (o :: l) E (Pm w0 L) := fun ac w hac hw =>
  wpList_plain hg fun K' hK => by
    obtain ⟨ob', w', hrun, hob, hm', hgr⟩ := hm.put K ht (hw.at_ hk).1 ha v
    have hex : (execOp ac.eval o).run P w = .ok .skip w' := by
      unfold execOp; rw [ho];simp only [hac.eval hx, hac.eval hy, hac.eval hz, Sem.run_bind, hrun, Result.andThen_ok, Sem.run_pure]
    unfold Oper.wp;rw [hex];show K' (ac.put o.dst undef) _;rw [hd];exact hK _ _ (h ob' hm' _ _ (hac.put0 _) (hw.turnO hk hnew hgr hob))
end
theorem KmN {P : Program} {k : TypeId} {q : IntKind} (hk : P.underlying k = some (.int q)) : MKey P k (Value.int q) (fun a => (Lit.int q a).wf = true) :=
  ⟨Maps.int_keyed hk, fun a ha => ⟨_, Maps.keyOf_int_mk hk ha⟩, fun a b h => by cases h; rfl⟩
theorem Kgm (l : List Int) (x : Int) : Ka (l ++ [x]) = Ka l + pB l.length * x := by
  rw [Kg5];show _ + _ * (x + 1073741824 * 0) = _;rw [Int.mul_zero, Int.add_zero]
structure FrI (n : Int) (o : List Int) (m : Int) : Prop where
  ok : Km o
  m0 : 0 <= m
  top : m = 0 -> o.getLast? ≠ some 0
  eq : n = Ka o + pB o.length * m
theorem FrI.start {n : Int} (h : 0 <= n) : FrI n [] n := ⟨Km.nil, h, fun _ => by simp, by show n = 0 + pB 0 * n; rw [Kez]; omega⟩
theorem FrI.step {n m : Int} {o : List Int} (h : FrI n o m) (hm : 0 < m) : FrI n (o ++ [m % 1073741824]) (m / 1073741824) := by
  refine ⟨h.ok.app (Km.cons (KcG m) Km.nil), by omega, fun h0 => ?_, ?_⟩
  · rw [List.getLast?_append];simp only [List.getLast?_singleton, Option.some_or, ne_eq, Option.some.injEq];omega
  · rw [Kgm, List.length_append];show n = _ + pB (o.length + 1) * _;rw [Kac, h.eq]
    have h3 : pB o.length * m = pB o.length * (m % 1073741824) + 1073741824 * (pB o.length * (m / 1073741824)) := by
      rw [Int.mul_left_comm, <- Int.mul_add]; congr 1; omega
    rw [Int.mul_assoc];omega
theorem FrI.len {n m : Int} {o : List Int} (h : FrI n o m) (hm : 0 < m) (hn : n < 9223372036854775808) : o.length <= 2 := by
  refine Decidable.by_contra fun hl => ?_;have h1 := Kan (show 3 <= o.length by omega);have h2 : pB 3 = 1237940039285380274899124224 := by decide
  have h3 : pB o.length * 1 <= pB o.length * m := Int.mul_le_mul_of_nonneg_left (by omega) (by have := KV o.length; omega);have := Kz h.ok;have := h.eq;omega
theorem FrI.done {n : Int} {o : List Int} (h : FrI n o 0) : Nrm o /\ Ka o = n := ⟨⟨h.ok, h.top rfl⟩, by have := h.eq; omega⟩
theorem FrI.done0 {n m : Int} {o : List Int} (h : FrI n o m) (hm : ¬ m > 0) : Nrm o /\ Ka o = n := by
  have := h.m0;obtain rfl : m = 0 := by omega
  exact h.done
structure ShR (l o : List Int) (P : Int) (i : Nat) : Prop where
  len : o.length = l.length
  ok : Km o
  eq : P * Ka (o.drop i) + l.getD i 0 % P = Ka (l.drop i)
theorem Kiw {x y P Q : Int} (hPQ : P * Q = 1073741824) (hP : 0 < P) (hQ : 0 < Q) (hx : 0 <= x /\ x < 1073741824) (hy : 0 <= y /\ y < 1073741824) : 0 <= x * 1073741824 + y /\ x * 1073741824 + y <= 1152921504606846975 /\ P * (((x * 1073741824 + y) / P) % 1073741824) = y - y % P + 1073741824 * (x % P) /\ 0 <= (x * 1073741824 + y) / P /\ (x * 1073741824 + y) / P <= 1152921504606846975 := by
  have e1 : x * 1073741824 + y = y + x * Q * P := by rw [Int.mul_assoc, Int.mul_comm Q, hPQ]; omega
  have e2 : (x * 1073741824 + y) / P = y / P + x * Q := by rw [e1, Int.add_mul_ediv_right _ _ (by omega)]
  have h1 : 0 <= y / P := Int.ediv_nonneg hy.1 (by omega);have h2 : y / P < Q := Int.ediv_lt_of_lt_mul hP (by rw [Int.mul_comm, hPQ]; exact hy.2)
  have e3 : x * Q = (x % P) * Q + (x / P) * 1073741824 := by
    have h3 := Int.emod_add_mul_ediv x P;have : x * Q = (x % P + P * (x / P)) * Q := by rw [h3]
    rw [this, Int.add_mul, Int.mul_assoc, Int.mul_comm (x / P), <- Int.mul_assoc, hPQ]; omega
  have h4 : 0 <= x % P := Int.emod_nonneg _ (by omega);have h5 : x % P < P := Int.emod_lt_of_pos _ hP;have h6 : (x % P) * Q <= (P - 1) * Q := Int.mul_le_mul_of_nonneg_right (by omega) (by omega);rw [Int.sub_mul, hPQ, Int.one_mul] at h6;have h7 : 0 <= (x % P) * Q := Int.mul_nonneg h4 (by omega)
  have e4 : ((x * 1073741824 + y) / P) % 1073741824 = y / P + (x % P) * Q := by
    rw [e2, e3]; omega
  have e5 : P * (y / P) = y - y % P := by have := Int.emod_add_mul_ediv y P; omega
  have e6 : P * ((x % P) * Q) = 1073741824 * (x % P) := by rw [Int.mul_left_comm, hPQ, Int.mul_comm]
  have h8 : (x * 1073741824 + y) / P <= x * 1073741824 + y := Int.ediv_le_self _ (by omega);refine ⟨by omega, by omega, by rw [e4, Int.mul_add, e5, e6], Int.ediv_nonneg (by omega) (by omega), by omega⟩
theorem ShR.start (l : List Int) {P : Int} : ShR l (List.replicate l.length 0) P l.length :=
  ⟨List.length_replicate .., Km.zeros _, by rw [List.drop_of_length_le (by rw [List.length_replicate]; exact Nat.le_refl _), List.drop_of_length_le (Nat.le_refl _), Kdp (Nat.le_refl _)]; simp [Ka]⟩
theorem ShR.step {l o : List Int} {P Q : Int} {i : Nat} {y : Int} (h : ShR l o P (i + 1)) (hl : Km l) (hPQ : P * Q = 1073741824) (hP : 0 < P) (hQ : 0 < Q) (hy : l[i]? = some y) : ShR l (o.set i (((l.getD (i + 1) 0 * 1073741824 + y) / P) % 1073741824)) P i := by
  have hi := (List.getElem?_eq_some_iff.1 hy).1;have hs := Kiw hPQ hP hQ (hl.getD (i + 1)) (hl.at_ hy);refine ⟨by rw [List.length_set]; exact h.len, h.ok.set (KcG _), ?_⟩;rw [Kbd (o.set i _), Kfb, KdR _ (by rw [h.len]; exact hi), KS hy, Kbd l, KS hy, <- h.eq, Int.mul_add, hs.2.2.1, Int.mul_left_comm P];omega
theorem ShR.full {l o : List Int} {P X : Int} (h : ShR l o P 0) (hP : 0 < P) (hX : Ka l = P * X) : Ka o = X := by
  have h1 := h.eq;rw [List.drop_zero, List.drop_zero, hX] at h1;have h2 : 0 <= l.getD 0 0 % P := Int.emod_nonneg _ (by omega);have h3 : l.getD 0 0 % P < P := Int.emod_lt_of_pos _ hP;have h4 : P * (X - Ka o) = l.getD 0 0 % P := by rw [Int.mul_sub]; omega
  rcases Int.lt_trichotomy (X - Ka o) 0 with h5 | h5 | h5
  · have : P * (X - Ka o) <= P * (-1) := Int.mul_le_mul_of_nonneg_left (by omega) (by omega);omega
  · omega
  · have : P * 1 <= P * (X - Ka o) := Int.mul_le_mul_of_nonneg_left (by omega) (by omega);omega
def Kdj (a b q r : List Int) : Prop := Nrm q /\ Nrm r /\ Ka a = Ka q * Ka b + Ka r /\ 0 <= Ka r /\ Ka r < Ka b
theorem Kb2 (n : Nat) : (0 : Int) < 2 ^ n := by
  induction n with
  | zero => decide
  | succ n ih => rw [Int.pow_succ]; omega
theorem Khn {n : Nat} (h : n <= 30) : (2 : Int) ^ n * 2 ^ (30 - n) = 1073741824 := by
  rw [<- Int.pow_add, show n + (30 - n) = 30 by omega]; rfl
theorem KoE {b v : List Int} {n by_ : Nat} (hb : Nrm b) (hn : b.length = n) (hn1 : 1 <= n) (hv : Km v) (hvl : v.length = n + 1) (he : Ka v = Ka b * 2 ^ by_) (hby : by_ <= 30) (htop : b.getD (n - 1) 0 < 2 ^ (30 - by_)) :
    Ka v < pB n /\ v.getD n 0 = 0 /\ 0 < v.getD (n - 1) 0 /\ 0 < Ka v := by
  have hP := Kb2 by_;have h1 := Kar b (n - 1);rw [show n - 1 + 1 = n by omega, List.take_of_length_le (by omega)] at h1;have h2 := KaF (hb.1.take (n - 1));rw [List.length_take, Nat.min_eq_left (by omega)] at h2
  have h3 : Ka b < pB (n - 1) * 2 ^ (30 - by_) := by
    have : pB (n - 1) * (b.getD (n - 1) 0 + 1) <= pB (n - 1) * 2 ^ (30 - by_) := Int.mul_le_mul_of_nonneg_left (by omega) (by have := KV (n - 1); omega);rw [Int.mul_add, Int.mul_one] at this;omega
  have hBn : pB n = 1073741824 * pB (n - 1) := by rw [<- Kac, show n - 1 + 1 = n by omega]
  have h4 : Ka v < pB n := by
    have : Ka b * 2 ^ by_ < (pB (n - 1) * 2 ^ (30 - by_)) * 2 ^ by_ := Int.mul_lt_mul_of_pos_right h3 hP;rw [Int.mul_assoc, Int.mul_comm (2 ^ (30 - by_)), Khn hby] at this;omega
  have h5 := hb.pos (by omega);rw [hn] at h5
  have h6 : pB (n - 1) <= Ka v := by
    have : Ka b * 1 <= Ka b * 2 ^ by_ := Int.mul_le_mul_of_nonneg_left (by omega) (by have := KV (n - 1); omega);omega
  have h7 := KfH hv (Kif hv h4);refine ⟨h4, h7.1, ?_, by have := KV (n - 1); omega⟩;have h8 := Kar v (n - 1);have h9 := Kar v n;rw [show n - 1 + 1 = n by omega] at h8;rw [List.take_of_length_le (by omega : v.length <= n + 1), h7.1] at h9;have h10 := KaF (hv.take (n - 1));rw [List.length_take, Nat.min_eq_left (by omega)] at h10;have h11 := hv.getD (n - 1);refine Decidable.by_contra fun hh => ?_;have h12 : v.getD (n - 1) 0 = 0 := by omega
  rw [h12] at h8;omega
theorem DvI.start {a v u : List Int} {n m : Nat} {P : Int} (hu : Km u) (hul : u.length = a.length + 1) (he : Ka u = Ka a * P) (hm : a.length = n + m) (ha : Km a) (hv : pB (n - 1) * P <= Ka v) (hn : 1 <= n) (hP : 0 < P) : DvI (Ka a * P) v u (List.replicate (m + 1) 0) n m (m + 1) := by
  refine ⟨by omega, hu, List.length_replicate .., Km.zeros _, fun k _ => Kde _ k, ?_, ?_⟩
  · rw [List.drop_of_length_le (by rw [List.length_replicate]; exact Nat.le_refl _), he]; simp [Ka]
  · have h1 := KaF ha;have h2 : Ka a * P < pB a.length * P := Int.mul_lt_mul_of_pos_right h1 hP;have h3 : pB (n - 1) * P * pB (m + 1) <= Ka v * pB (m + 1) := Int.mul_le_mul_of_nonneg_right hv (by have := KV (m + 1); omega)
    have h4 : pB (n - 1) * P * pB (m + 1) = pB a.length * P := by
      rw [Int.mul_assoc, Int.mul_comm P, <- Int.mul_assoc, <- Kc8, show n - 1 + (m + 1) = a.length by omega]
    omega
theorem DvI.done {a b v u q rest o : List Int} {n m by_ : Nat} (h : DvI (Ka a * 2 ^ by_) v u q n m 0) (hv : Ka v = Ka b * 2 ^ by_) (hvn : Ka v < pB n) (hr : rest = Ki (u.take n)) (ho : ShR rest o (2 ^ by_) 0) : Kdj a b (Ki q) (Ki o) := by
  have hP := Kb2 by_;have he := h.eq;have hl := h.lt;rw [Kez, Int.mul_one] at hl;rw [Kez, List.drop_zero, Int.one_mul] at he
  have h1 : Ka u = Ka (u.take n) := by
    have h2 := Kif h.uok (show Ka u < pB n by omega);rcases Nat.lt_or_ge n u.length with h3 | h3
    · have h4 := Kcq u n (by omega);rw [h2] at h4; omega
    · rw [List.take_of_length_le h3]
  have h5 : Ka rest = Ka u := by rw [hr, (Nrm.trim (h.uok.take n)).2, h1]
  have h6 : Ka rest = 2 ^ by_ * (Ka a - Ka q * Ka b) := by
    rw [h5, Int.mul_sub, Int.mul_comm _ (Ka a), he, hv]
    have : Ka b * 2 ^ by_ * Ka q = 2 ^ by_ * (Ka q * Ka b) := by
      rw [Int.mul_comm (Ka b), Int.mul_assoc, Int.mul_comm (Ka b)]
    omega
  have h7 := ho.full hP h6;obtain ⟨q1, q2⟩ := Nrm.trim h.qok;obtain ⟨o1, o2⟩ := Nrm.trim ho.ok;refine ⟨q1, o1, by rw [q2, o2, h7]; omega, Kz o1.1, ?_⟩;rw [o2, h7]
  have h8 : (Ka a - Ka q * Ka b) * 2 ^ by_ < Ka b * 2 ^ by_ := by
    rw [Int.mul_comm, <- h6, h5, <- hv]; exact hl
  exact Int.lt_of_mul_lt_mul_right h8 (by omega)
set_option maxRecDepth 20000
section
variable {P : Program} {N : Fr} {E : Env} {I : World -> Prop} {o : Oper}
theorem Ka0 {op : BinOp} {xt yt : TypeId} {x y : Operand} {vx vy v : Value} (ho : o.op = .binOp op xt x y yt) (hx : ev E x = some vx) (hy : ev E y = some vy)
    (hv : ∀ w : World, (do eqGuard op xt x y vx vy; binOp op xt vx vy : Sem Value).run P w = .ok v w) : Kv P N o E I v := fun a w ha _ => by
  unfold execOp; rw [ho];simp only [ha.eval hx, ha.eval hy];have := hv w;simp only [Sem.run_bind] at this ⊢;rw [this]
  rfl
theorem KkH {xt e : TypeId} (hu : P.underlying xt = some (.slice e)) {x y : Operand} {A : Option Addr} {n c : Nat} (w : World) :
    (do eqGuard .eql xt x y (.slice A n c) (.slice none 0 0); binOp .eql xt (.slice A n c) (.slice none 0 0) : Sem Value).run P w = .ok (.bool A.isNone) w := by
  cases A <;> simp [eqGuard, binOp, go_sem, run_underlying hu, Op.equal, Op.maxDepth, Lib.run_equalIn_slice_nil w 9999 xt e _ n c 0 0 hu]
end
section
variable {P : Program} {N : Fr} {Q : Exit -> Act -> World -> Prop} {E : Env} {w0 : Base} {L : List Pc} {ops : Array Oper} {l : List Oper} {o : Oper}
end
section
variable {P : Program} {N : Fr} {Q : Exit -> Act -> World -> Prop} {E : Env} {w0 : Base} {L : List Pc} {ops : Array Oper} {l : List Oper} {o : Oper}
end
section
variable {P : Program} {N : Fr} {E : Env} {I : World -> Prop}
theorem Kic {fn : Func} {t u s : Tmp} {v1 v2 v3 : Value} {R : Ending -> World -> Prop} (hr : fn.results = #[.tmp t, .tmp u, .tmp s]) (h1 : look E t = some v1) (h2 : look E u = some v2) (h3 : look E s = some v3) (hR : ∀ w, I w -> R (.returned (.tuple #[v1, v2, v3])) w) (hD : N.ds = [] := by rfl) : TX N (bodyPost P fn R) .ret E I := fun a w ha hw =>
  ⟨ha.defers.trans hD, .tuple #[v1, v2, v3], by
    have e1 := ha.slot t _ h1;have e2 := ha.slot u _ h2;have e3 := ha.slot s _ h3;simp [results, hr, e1, e2, e3], hR w hw⟩
end
theorem DvI.next0 {A : Int} {v u q u1 : List Int} {n m j i : Nat} {g c : Int} (h : DvI A v u q n m (j + 1)) (hjm : j <= m) (hV : 0 < Ka v) (hv : Ka v < pB n) (hvl : v.length = n + 1) (hg : Ka u / (Ka v * pB j) <= g /\ g <= Ka u / (Ka v * pB j) + 1) (hg0 : 0 <= g /\ g < 1073741824) (hc : CombI u v u1 (-g) j i c) (hi : i = n + 1) (h0 : 0 <= c) : DvI A v u1 (q.set j g) n m j := by
  subst hi;have hf := ((h.fit (u2 := u1) (c2 := 0) hjm hV hv hvl hg hc).1 h0);have h3 := h.put hjm hV hc.len hc.ok hf.1 (by rw [<- hf.2]; exact hg0);rw [<- hf.2] at h3;exact h3
theorem DvI.next1 {A : Int} {v u q u1 u2 : List Int} {n m j i k : Nat} {g c c2 : Int} (h : DvI A v u q n m (j + 1)) (hjm : j <= m) (hV : 0 < Ka v) (hv : Ka v < pB n) (hvl : v.length = n + 1) (hg : Ka u / (Ka v * pB j) <= g /\ g <= Ka u / (Ka v * pB j) + 1) (hg0 : 0 <= g /\ g < 1073741824) (hc : CombI u v u1 (-g) j i c) (hi : i = n + 1) (h0 : c < 0) (hc2 : CombI u1 v u2 1 j k c2) (hk : k = n + 1) : DvI A v u2 (q.set j (g - 1)) n m j := by
  subst hi hk;have hf := ((h.fit (u2 := u2) (c2 := c2) hjm hV hv hvl hg hc).2 h0);have ht : Ka u / (Ka v * pB j) = g - 1 := by omega
  have hVj : 0 < Ka v * pB j := Int.mul_pos hV (KV j);have ht0 : 0 <= Ka u / (Ka v * pB j) := Int.ediv_nonneg (Kz h.uok) (by omega);have h3 := h.put hjm hV (hc2.len.trans hc.len) hc2.ok (hf.2 hc2) (by omega);rw [ht] at h3;exact h3
def Kc4 (a b x y : List Int) : Prop := Nrm x /\ Nrm y /\ Int.gcd (Ka x) (Ka y) = Int.gcd (Ka a) (Ka b)
theorem Kc4.step {a b x y q r : List Int} (h : Kc4 a b x y) (hd : Kdj x y q r) : Kc4 a b y r := by
  obtain ⟨h1, h2, h3⟩ := h;obtain ⟨d1, d2, d3, d4, d5⟩ := hd;refine ⟨h2, d2, ?_⟩;rw [<- h3, d3, Int.gcd_comm (Ka q * Ka y + Ka r), Int.add_comm, Int.gcd_add_mul_right_right]
theorem Kc4.done {a b x y : List Int} (h : Kc4 a b x y) (hy : y = []) : Ka x = (Int.gcd (Ka a) (Ka b) : Int) := by
  obtain ⟨h1, h2, h3⟩ := h;subst hy;rw [<- h3];show Ka x = ((Int.gcd (Ka x) 0 : Nat) : Int);rw [Int.gcd_zero];have := Kz h1.1;omega
def KaI (x : Int) (L : Nat) : Prop := x < 2 ^ L /\ (0 < L -> 2 ^ (L - 1) <= x)
theorem KaI.up {x : Int} {L k : Nat} (h : KaI (x / 2 ^ k) L) (hx : 0 < x / 2 ^ k) : KaI x (L + k) /\ 0 < L := by
  have hP := Kb2 k
  have hL : 0 < L := by
    rcases Nat.eq_zero_or_pos L with rfl | h1
    · have := h.1; omega
    · exact h1
  refine ⟨⟨?_, fun _ => ?_⟩, hL⟩
  · rw [Int.pow_add]; exact Int.lt_mul_of_ediv_lt hP h.1
  · have h1 := h.2 hL;rw [show L + k - 1 = (L - 1) + k by omega, Int.pow_add];exact Int.le_trans (Int.mul_le_mul_of_nonneg_right h1 (by omega)) (Int.ediv_mul_le x (by omega))
def Kdm : List Int := [0, 1, 2, 2, 3, 3, 3, 3] ++ List.replicate 8 4 ++ List.replicate 16 5 ++ List.replicate 32 6 ++ List.replicate 64 7 ++ List.replicate 128 8
theorem KrD : ∀ i : Fin 256, ∃ L : Fin 9, Kdm[i.val]? = some ((L.val : Nat) : Int) /\ (i.val : Int) < 2 ^ L.val /\ (0 < L.val -> (2 : Int) ^ (L.val - 1) <= i.val) := by decide +kernel
theorem KfB {i : Nat} (hi : i < 256) : ∃ L : Nat, Kdm[i]? = some ((L : Nat) : Int) /\ L <= 8 /\ KaI ((i : Nat) : Int) L := by
  obtain ⟨L, h1, h2, h3⟩ := KrD ⟨i, hi⟩;exact ⟨L.val, h1, by omega, h2, h3⟩
theorem KaI.le30 {x : Int} {L : Nat} (h : KaI x L) (hx : x < 1073741824) : L <= 30 := by
  refine Decidable.by_contra fun hn => ?_;have h1 := h.2 (by omega)
  have h2 : (2 : Int) ^ 30 <= 2 ^ (L - 1) := by
    rw [show L - 1 = 30 + (L - 1 - 30) by omega, Int.pow_add];have := Kb2 (L - 1 - 30);have h3 : (2 : Int) ^ 30 * 1 <= 2 ^ 30 * 2 ^ (L - 1 - 30) := Int.mul_le_mul_of_nonneg_left (by omega) (by decide);omega
  have h4 : (2 : Int) ^ 30 = 1073741824 := by decide
  omega
end Go.Proofs.YtcicmplfmcloiaaGreat
