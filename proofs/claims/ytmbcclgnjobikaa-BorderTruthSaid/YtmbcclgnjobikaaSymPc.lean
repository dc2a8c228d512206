/-
  A walk by rules, memory in pieces: blocks of the call's own, rows of the call's own (slices that grow); what was there before is as it was. No program is imported.
-/
import Derived.Test.YtmbcclgnjobikaaSymMem
import Derived.RangeFuncOwn
namespace Go.Proofs.Ytmbcclgnjobikaa
open Go.RowKit
set_option linter.unusedVariables false
set_option linter.unusedSimpArgs false

/-- a piece of memory that the call has made -/
inductive Pc where
  | blk (g : Nat) (t : TypeId) (cs : List Value)
  | row (v : Value) (e : TypeId) (size n : Nat) (xs : List Value)
  | oth (k : Nat) (o : Obj)
  | abs (g : Nat) (p : World → Prop)
def Pc.isAbs : Pc → Bool
  | .abs _ _ => true
  | _ => false
def noAbs (l : List Pc) : Bool := l.all fun p => !p.isAbs
def Pc.key : Pc → Option Nat
  | .blk g _ _ => some g
  | .row v _ _ _ _ => v.ownBlock
  | .oth k _ => some k
  | .abs g _ => some g
def Pc.ok (B : Nat) (w : World) : Pc → Prop
  | .blk g t cs => Blk w g t cs.toArray ∧ B ≤ g
  | .row v e size n xs => w.ownsRow B e size v n xs
  | .oth k o => w.heap[k]? = some o ∧ B ≤ k
  | .abs g p => p w ∧ B ≤ g ∧ (∃ o : Obj, w.heap[g]? = some o ∧ o.isCells = true) ∧ ∀ w1 w2 : World, p w1 → (∀ k, k < B ∨ k = g → w2.heap[k]? = w1.heap[k]?) → p w2
theorem Pc.lt {B : Nat} {w : World} {p : Pc} (h : p.ok B w) : ∀ g, p.key = some g → B ≤ g ∧ g < w.heap.size := by
  intro g hg
  cases p with
  | blk g' t cs =>
    simp only [Pc.key, Option.some.injEq] at hg
    subst hg
    exact ⟨h.2, h.1.lt⟩
  | row v e size n xs => exact World.ownsRow.lt h g hg
  | oth k o =>
    simp only [Pc.key, Option.some.injEq] at hg
    subst hg
    exact ⟨h.2, (Array.getElem?_eq_some_iff.1 h.1).1⟩
  | abs g' p =>
    simp only [Pc.key, Option.some.injEq] at hg
    subst hg
    obtain ⟨_, h2, ⟨o, ho, _⟩, _⟩ := h
    exact ⟨h2, (Array.getElem?_eq_some_iff.1 ho).1⟩
theorem Pc.same {B : Nat} {w w' : World} {p : Pc} (h : p.ok B w) (hs : ∀ g, p.key = some g → w'.heap[g]? = w.heap[g]?) (hB : ∀ k, k < B → w'.heap[k]? = w.heap[k]?) : p.ok B w' := by
  cases p with
  | blk g t cs => exact ⟨(hs g rfl).trans h.1, h.2⟩
  | row v e size n xs =>
    refine ⟨h.1, ?_⟩
    rcases h.2 with h | ⟨g, cap, cur, a, b, hg, r⟩
    · exact .inl h
    · exact .inr ⟨g, cap, cur, a, b, (hs g (by rw [a]; rfl)).trans hg, r⟩
  | oth k o => exact ⟨(hs k rfl).trans h.1, h.2⟩
  | abs g p =>
    obtain ⟨h1, h2, ⟨o, ho, hc⟩, h4⟩ := h
    exact ⟨h4 _ _ h1 fun k hk => hk.elim (hB k) (fun e => by subst e; exact hs k rfl), h2, ⟨o, (hs g rfl).trans ho, hc⟩, h4⟩
def keys : List Pc → List Nat
  | [] => []
  | p :: r => match p.key with
    | some g => g :: keys r
    | none => keys r
/-- where the walk began, and from which block on the blocks are the call's own -/
structure Base where
  w : World
  b : Nat
instance : Coe World Base := ⟨fun w => ⟨w, w.heap.size⟩⟩
/-- blocks that are no cells are as they were -/
def Others (w w' : World) : Prop := KeepsOthers w w'
structure Pm (w0 : Base) (L : List Pc) (w : World) : Prop where
  bel : Below w0.b w0.w w
  own : ∀ p ∈ L, p.ok w0.b w
  apart : L.Pairwise fun p q => ∀ g, p.key = some g → q.key ≠ some g
  oth : KeepsOthers w0.w w
  low : w0.b ≤ w0.w.heap.size
section
variable {w0 : Base} {w w' : World} {L : List Pc}
theorem Pm.base (h : Pm w0 L w) : w0.b ≤ w.heap.size := Nat.le_trans h.low h.bel.size
theorem others_below {w w' : World} (h : Below w.heap.size w w') : KeepsOthers w w' := ⟨h.size, fun k o hk _ => (h.block k (Array.getElem?_eq_some_iff.1 hk).1).trans hk⟩
theorem Pm.start (w : World) : Pm w [] w := ⟨Below.refl _ _, (fun x hx => absurd hx List.not_mem_nil), List.Pairwise.nil, KeepsOthers.refl w, Nat.le_refl _⟩
theorem Pm.drawn (h : Pm w0 L w) (n : Nat) : Pm w0 L { w with drawn := n } := ⟨⟨h.bel.os, h.bel.tape, h.bel.output, h.bel.size, h.bel.block⟩, fun p hp => Pc.same (h.own p hp) (fun _ _ => rfl) (fun _ _ => rfl), h.apart, ⟨h.oth.size, h.oth.same⟩, h.low⟩
theorem Pm.at_ (h : Pm w0 L w) {k : Nat} {p : Pc} (hk : L[k]? = some p) : p.ok w0.b w := h.own _ (List.mem_of_getElem? hk)
theorem Pm.below (h : Pm w0 L w) (hb : Below w.heap.size w w') : Pm w0 L w' :=
  ⟨h.bel.trans (hb.mono h.base), fun p hp => Pc.same (h.own p hp) (fun g hg => hb.block g (Pc.lt (h.own p hp) g hg).2) (fun k hk => hb.block k (Nat.lt_of_lt_of_le hk h.base)), h.apart, h.oth.trans (others_below hb), h.low⟩
/-- a new piece -/
theorem Pm.add (h : Pm w0 L w) (hb : Below w.heap.size w w') {p : Pc} (hp : p.ok w.heap.size w') (hna : p.isAbs = false := by rfl) : Pm w0 (p :: L) w' := by
  have h' := h.below hb
  refine ⟨h'.bel, fun q hq => ?_, List.Pairwise.cons (fun q hq g hg he => ?_) h.apart, h'.oth, h.low⟩
  · rcases List.mem_cons.1 hq with rfl | hq
    · cases q with
      | blk g t cs => exact ⟨hp.1, Nat.le_trans h.base hp.2⟩
      | row v e size n xs => exact own_base hp h.base
      | oth k o => exact ⟨hp.1, Nat.le_trans h.base hp.2⟩
      | abs g p => cases hna
    · exact h'.own q hq
  · have h1 := (Pc.lt hp g hg).1
    have h2 := (Pc.lt (h.own q hq) g he).2
    omega
theorem Pm.new (h : Pm w0 L w) (t : TypeId) (cs : List Value) : Pm w0 (.blk w.heap.size t cs :: L) (w.alloc (.cells cs.toArray t)) :=
  h.add ((Below.refl _ _).alloc (Nat.le_refl _) _) ⟨Blk.new _ _ _, Nat.le_refl _⟩
/-- the same memory, seen from here -/
theorem Pm.from_ (h : Pm w0 L w) : Pm ⟨w, w0.b⟩ L w := ⟨Below.refl _ _, h.own, h.apart, KeepsOthers.refl w, h.base⟩
theorem Pm.trans {L' : List Pc} (h : Pm w0 L w) (h' : Pm ⟨w, w0.b⟩ L' w') : Pm w0 L' w' := ⟨h.bel.trans h'.bel, h'.own, h'.apart, h.oth.trans h'.oth, h.low⟩
/-- does the piece lie in cells -/
theorem Pc.cells {bb : Nat} {w : World} {p : Pc} (h : p.ok bb w) (hp : ∀ k o, p = .oth k o → False) : ∀ g, p.key = some g → ∃ o, w.heap[g]? = some o ∧ o.isCells = true := by
  intro g hg
  cases p with
  | blk g' t cs =>
    simp only [Pc.key, Option.some.injEq] at hg
    subst hg
    exact ⟨_, h.1, rfl⟩
  | row v e size n xs =>
    rcases h.2 with ⟨rfl, _⟩ | ⟨g', cap, cur, a, b, hg', r⟩
    · simp [Pc.key, Value.ownBlock] at hg
    · have : v.ownBlock = some g := hg
      rw [a] at this
      simp only [Value.ownBlock, Option.some.injEq] at this
      subst this
      exact ⟨_, hg', rfl⟩
  | oth k o => exact (hp k o rfl).elim
  | abs g' p =>
    simp only [Pc.key, Option.some.injEq] at hg
    subst hg
    exact h.2.2.1
/-- piece number k turns into another one: only its block changes -/
theorem Pm.turn (h : Pm w0 L w) {k : Nat} {p p' : Pc} (hk : L[k]? = some p) (hg : w.grownBy w' p.key) (hp : p'.ok w0.b w') (hkey : ∀ g, p'.key = some g → p.key = some g ∨ w.heap.size ≤ g) (hc : ∀ k o, p = .oth k o → False) : Pm w0 (L.set k p') w' := by
  have hpo := h.at_ hk
  refine ⟨(h.bel).grown hg h.base fun g hg => (Pc.lt hpo g hg).1, fun q hq => ?_, ?_, h.oth.trans (KeepsOthers.of_grownBy hg fun j o hj ho => ?_), h.low⟩
  · obtain ⟨i, hi⟩ := List.getElem?_of_mem hq
    rw [List.getElem?_set] at hi
    by_cases e : k = i
    · subst e
      have hlt := (List.getElem?_eq_some_iff.1 hk).1
      simp [hlt] at hi
      subst hi
      exact hp
    · rw [if_neg e] at hi
      refine Pc.same (h.at_ hi) (fun g hgq => hg.block g (Pc.lt (h.at_ hi) g hgq).2 fun he => ?_) (fun k' hk' => hg.block k' (Nat.lt_of_lt_of_le hk' h.base) fun he => ?_)
      rotate_left
      · have := (Pc.lt hpo k' he.symm).1
        omega
      have hlt := (List.getElem?_eq_some_iff.1 hk).1
      have hlt' := (List.getElem?_eq_some_iff.1 hi).1
      have ek := (List.getElem?_eq_some_iff.1 hk).2
      have ei := (List.getElem?_eq_some_iff.1 hi).2
      rcases Nat.lt_or_gt_of_ne e with h1 | h1
      · exact List.pairwise_iff_getElem.1 h.apart k i hlt hlt' h1 g (by rw [ek]; exact he.symm) (by rw [ei]; exact hgq)
      · exact List.pairwise_iff_getElem.1 h.apart i k hlt' hlt h1 g (by rw [ei]; exact hgq) (by rw [ek]; exact he.symm)
  · refine List.pairwise_iff_getElem.2 fun i j hi hj hij g hgi hgj => ?_
    have hlk := (List.getElem?_eq_some_iff.1 hk).1
    have ek := (List.getElem?_eq_some_iff.1 hk).2
    have hi' : i < L.length := by simpa using hi
    have hj' : j < L.length := by simpa using hj
    have hap := List.pairwise_iff_getElem.1 h.apart
    rw [List.getElem_set] at hgi hgj
    by_cases e1 : k = i
    · subst e1
      rw [if_pos rfl] at hgi
      rw [if_neg (by omega)] at hgj
      rcases hkey g hgi with h1 | h1
      · exact hap k j hi' hj' hij g (by rw [ek]; exact h1) hgj
      · have := (Pc.lt (h.own _ (List.getElem_mem hj')) g hgj).2
        omega
    · rw [if_neg e1] at hgi
      by_cases e2 : k = j
      · subst e2
        rw [if_pos rfl] at hgj
        rcases hkey g hgj with h1 | h1
        · exact hap i k hi' hj' hij g hgi (by rw [ek]; exact h1)
        · have := (Pc.lt (h.own _ (List.getElem_mem hi')) g hgi).2
          omega
      · rw [if_neg e2] at hgj
        exact hap i j hi' hj' hij g hgi hgj
  · obtain ⟨o', h1, h2⟩ := Pc.cells hpo hc j hj
    rw [ho] at h1
    injection h1 with h1
    rw [h1]; exact h2
theorem grown_setRow {g : Nat} (cs : Array Value) (w : World) : w.grownBy (w.setRow g cs) (some g) := by
  refine ⟨rfl, rfl, rfl, ?_, fun k hk hne => ?_⟩
  · simp [World.setRow]
  · have : k ≠ g := fun e => hne (by rw [e])
    simp [World.setRow, Array.getElem?_modify, this.symm]
theorem Pm.setRow (h : Pm w0 L w) {k g : Nat} {t : TypeId} {cs : List Value} (hk : L[k]? = some (.blk g t cs)) (cs' : List Value) : Pm w0 (L.set k (.blk g t cs')) (w.setRow g cs'.toArray) := by
  obtain ⟨hb, hg⟩ := h.at_ hk
  exact h.turn hk (grown_setRow _ _) ⟨setRow_heap w g _ _ _ _ hb, hg⟩ (fun g' hg' => .inl hg') (fun k o e => by cases e)
theorem Pm.cell (h : Pm w0 L w) {k g : Nat} {t : TypeId} {cs : List Value} (hk : L[k]? = some (.blk g t cs)) (i : Nat) : w.cell? ⟨g, i, none⟩ = cs[i]? := by
  rw [(h.at_ hk).1.cell i]; simp
end
end Go.Proofs.Ytmbcclgnjobikaa
