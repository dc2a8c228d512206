/-
  What the listed variables of the digest read as, and a start at which they do.
-/
import Derived.Test.YtllaojnnackhhaaDoorRows
import Derived.Test.YtllaojnnackhhaaDoorDgSumLaw
import Derived.Test.YtllaojnnackhhaaDoorDgTurn
import Derived.ProofKit
import Derived.LaidMore
import Derived.OpenShut
import Derived.Stop.Joined
namespace Go.Proofs.YtllaojnnackhhaaDoor
open Go.ChangeShapes Go.WideShapes Go.ChangeAt Go.WideMaps Go.WideElems Go.RowKit
set_option linter.unusedVariables false
set_option linter.unusedSimpArgs false
theorem ints_of_trod {P : Program} {W : World} {t e : TypeId} {n fuel : Nat} {k : IntKind} {cs : List Value} {L : List Int} {p : List MemPlace} {held : Bool} {spare : Nat → Bool} (ht : P.underlying t = some (.array n e)) (he : P.underlying e = some (.int k)) (hce : P.cellsOf e = 1) (hct : P.cellsOf t = n)
    (h : DataW.trod (fun _ => ()) P W 0 spare held fuel t cs = some (.agg (L.map fun x => .lit (.int k x)), p)) : cs = L.map (Value.int k) := by
  obtain ⟨xs, m, rfl, hx, hlen, hn, hel⟩ := DataW.trod_array ht h
  simp only [Prod.mk.injEq, DataW.agg.injEq] at hx
  have hx1 := hx.1
  have hll : L.length = xs.length := by have := congrArg List.length hx1; simpa using this
  refine List.ext_getElem? fun i => ?_
  by_cases hi : i < n
  · have h0 := hel i hi
    rw [hce, Nat.mul_one, List.getElem?_eq_getElem (by omega)] at h0
    obtain ⟨q, e1, e2, _⟩ := DataW.trod_int he h0
    have hq := congrArg (fun l => l[i]?) hx1
    simp only [List.getElem?_map] at hq
    rw [List.getElem?_eq_getElem (show i < xs.length by omega), List.getElem?_eq_getElem (show i < L.length by omega)] at hq
    simp only [Option.map_some, Option.some.injEq] at hq
    rw [e2] at hq
    have hq2 : L[i] = q := by
      injection hq with hq
      injection hq with _ hq
    have hc : cs[i]? = some (.int k q) := by
      have := congrArg (fun l => l[0]?) e1
      simp only [List.getElem?_take, List.getElem?_drop] at this
      simpa using this
    rw [hc, List.getElem?_map, List.getElem?_eq_getElem (show i < L.length by omega), hq2]
    rfl
  · rw [List.getElem?_eq_none (by omega), List.getElem?_eq_none (by simp; omega)]
abbrev laidL : List (String × DataW Unit) := [("routescope/digest.start", Rows.laid_routescope_digest_start), ("routescope/digest.keys", Rows.laid_routescope_digest_keys)]
theorem gStart : Tryd.prog.globalNamed "routescope/digest.start" = some 0 := by kernel_rfl
theorem gKeys : Tryd.prog.globalNamed "routescope/digest.keys" = some 1 := by kernel_rfl
theorem tStart : (Tryd.prog.globals[0]?).map (·.type) = some 42 := by kernel_rfl
theorem tKeys : (Tryd.prog.globals[1]?).map (·.type) = some 56 := by kernel_rfl
set_option maxRecDepth 100000 in
theorem door_met (os : Os) (args : Array Value) : laidMetH Tryd.prog laidL ((World.doorLaid Tryd.prog 400 os).forCall (fun _ _ => 0) ⟨#[], args, []⟩).memory :=
  laidMetH_of_parts3 (fuel := 8) (laidMet_of_run' 8 (by kernel_rfl) (by kernel_rfl)) (by kernel_rfl) (by kernel_rfl)
theorem row_mem {g n : Nat} (h : 0 < n) : MemPlace.cell g 0 ∈ MemPlace.row ⟨g, 0, none⟩ n := by
  simp [MemPlace.row]
  omega
theorem arrOf_keys : arrOf keysL = (keysL.map (Value.int .u32)).toArray := by kernel_rfl
theorem of_laid {W : World} (h : laidMetH Tryd.prog laidL W) : ∃ ts tk, Blk W 0 ts start8.cells ∧ Blk W 1 tk (arrOf keysL) := by
  rw [MakeChecks.laidMetH_plain _ _ _ (by kernel_rfl)] at h
  obtain ⟨ps, ⟨g0, t0, cs0, f0, p0, q0, hg0, ht0, hv0, hd0, ⟨g1, t1, cs1, f1, p1, q1, hg1, ht1, hv1, hd1, hr1, hq0⟩, hps⟩, hnd, hpl⟩ := h
  obtain rfl := Option.some.inj (gStart.symm.trans hg0)
  obtain rfl := Option.some.inj (gKeys.symm.trans hg1)
  obtain rfl := Option.some.inj (tStart.symm.trans ht0)
  obtain rfl := Option.some.inj (tKeys.symm.trans ht1)
  have e0 : cs0.toList = start8.list.map (Value.int .u32) := ints_of_trod Tryd.underlying42 Tryd.underlying40 (by kernel_rfl) (by kernel_rfl) hd0
  have e1 : cs1.toList = keysL.map (Value.int .u32) := ints_of_trod Tryd.underlying56 Tryd.underlying40 (by kernel_rfl) (by kernel_rfl) hd1
  have s0 : cs0 = start8.cells := by rw [← Array.toList_inj, e0]; rfl
  have s1 : cs1 = arrOf keysL := by rw [← Array.toList_inj, e1, arrOf_keys]
  obtain ⟨⟨c0, u0, h0⟩, _⟩ := hpl 0 0 (by rw [hps]; exact List.mem_append_left _ (List.mem_append_left _ (row_mem (by rw [s0]; decide))))
  obtain ⟨⟨c1, u1, h1⟩, _⟩ := hpl 1 0 (by rw [hps, hq0]; exact List.mem_append_right _ (List.mem_append_left _ (List.mem_append_left _ (row_mem (by rw [s1, arrOf_keys]; decide)))))
  have v0 : c0 = cs0 := by
    have := hv0
    simp only [World.var?, gStart, Option.bind_some, h0, Option.some.injEq] at this
    exact this
  have v1 : c1 = cs1 := by
    have := hv1
    simp only [World.var?, gKeys, Option.bind_some, h1, Option.some.injEq] at this
    exact this
  rw [v0, s0] at h0
  rw [v1, s1] at h1
  exact ⟨u0, u1, h0, h1⟩
end Go.Proofs.YtllaojnnackhhaaDoor
