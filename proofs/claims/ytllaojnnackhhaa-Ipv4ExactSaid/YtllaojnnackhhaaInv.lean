/-
  What a law's walk carries along: what was there before is untouched, and the choices are in order; lists of integers that the walk itself has made.
-/
import Derived.Test.YtllaojnnackhhaaDrawInt
namespace Go.Proofs.Ytllaojnnackhhaa
open Go.RowKit
set_option linter.unusedVariables false
set_option linter.unusedSimpArgs false

structure Inv (w : World) (cb : Nat) (wr : World) : Prop where
  old : w.heap.size ≤ cb
  bel : Below w.heap.size w wr
  cod : Cod wr cb
section
variable {w wr w' : World} {cb : Nat}
theorem Inv.next (h : Inv w cb wr) (hc : Cod w' cb) (hg : wr.grownBy w' (some cb)) : Inv w cb w' :=
  ⟨h.old, h.bel.grown hg h.bel.size (fun k hk => by injection hk with hk; have := h.old; omega), hc⟩
theorem Inv.below (h : Inv w cb wr) (hb : Below wr.heap.size wr w') : Inv w cb w' :=
  ⟨h.old, h.bel.trans (hb.mono h.bel.size), h.cod.below hb h.cod.lt⟩
theorem Inv.alloc (h : Inv w cb wr) (o : Obj) : Inv w cb (wr.alloc o) := ⟨h.old, h.bel.alloc h.bel.size o, h.cod.alloc o⟩
theorem Inv.drewN (h : Inv w cb wr) (n : Nat) : Inv w cb (wr.drewN n) :=
  ⟨h.old, ⟨h.bel.os, h.bel.tape, h.bel.output, h.bel.size, h.bel.block⟩, h.cod.drewN n⟩
theorem Inv.byt (h : Inv w cb wr) {A : Option Addr} {n : Nat} {l : List Int} (hl : Byt w w.heap.size A n l) : Byt wr wr.heap.size A n l := (hl.below h.bel).more h.bel.size
end

/-- block g, made behind the choices, holds these integers -/
structure Ints (w : World) (cb g : Nat) (xs : List Int) : Prop where
  pos : cb < g
  blk : Blk w g 3 (xs.map (Value.int .i64)).toArray
section
variable {w w' : World} {cb g : Nat} {xs : List Int}
theorem Ints.lt (h : Ints w cb g xs) : g < w.heap.size := h.blk.lt
theorem Ints.next (h : Ints w cb g xs) (hg : w.grownBy w' (some cb)) : Ints w' cb g xs :=
  ⟨h.pos, h.blk.grown hg (fun e => by injection e with e; have := h.pos; omega)⟩
theorem Ints.below (h : Ints w cb g xs) (hb : Below w.heap.size w w') : Ints w' cb g xs := ⟨h.pos, h.blk.below hb h.lt⟩
theorem Ints.alloc (h : Ints w cb g xs) (o : Obj) : Ints (w.alloc o) cb g xs := ⟨h.pos, h.blk.alloc o⟩
theorem Ints.drewN (h : Ints w cb g xs) (n : Nat) : Ints (w.drewN n) cb g xs := ⟨h.pos, h.blk.drewN n⟩
theorem Ints.at_ (h : Ints w cb g xs) {j : Nat} (hj : j < xs.length) : ∃ x, xs[j]? = some x ∧ w.cell? ⟨g, j, none⟩ = some (.int .i64 x) := by
  refine ⟨xs[j], List.getElem?_eq_getElem hj, ?_⟩
  rw [h.blk.cell j]
  simp [hj]
end
end Go.Proofs.Ytllaojnnackhhaa
