/-
  How a row's arguments are opened: bytes, integers.
-/
import Derived.Test.YtmbcclgnjobikaaRows
import Derived.Test.YtmbcclgnjobikaaBase
namespace Go.Proofs.Ytmbcclgnjobikaa
open Go.ChangeShapes Go.WideShapes Go.ChangeAt Go.RowKit
set_option linter.unusedVariables false
set_option linter.unusedSimpArgs false

theorem own : ownKnob Try.prog.godebug = none := by kernel_rfl
theorem laidOut : laidOutB Try.prog = true := by kernel_rfl

theorem wf_u8 {x : Int} (h : (Lit.int .u8 x).wf = true) : 0 ≤ x ∧ x ≤ 255 := by simpa [Lit.wf, IntKind.min, IntKind.max, IntKind.signed, IntKind.bits] using h
theorem wf_u16 {x : Int} (h : (Lit.int .u16 x).wf = true) : 0 ≤ x ∧ x ≤ 65535 := by simpa [Lit.wf, IntKind.min, IntKind.max, IntKind.signed, IntKind.bits] using h
theorem wf_u32 {x : Int} (h : (Lit.int .u32 x).wf = true) : 0 ≤ x ∧ x ≤ 4294967295 := by simpa [Lit.wf, IntKind.min, IntKind.max, IntKind.signed, IntKind.bits] using h
theorem wf_i64 {x : Int} (h : (Lit.int .i64 x).wf = true) : -9223372036854775808 ≤ x ∧ x ≤ 9223372036854775807 := by simpa [Lit.wf, IntKind.min, IntKind.max, IntKind.signed, IntKind.bits] using h

theorem byt_of_cells {w : World} {a : Addr} {len cap : Nat} {zs : List Int} (hl : len ≤ cap) (hz : zs.length = cap) (hb : 0 < len → a.block < w.heap.size) (hc : ∀ i, i < zs.length → w.cell? (a.add i) = some (.int .u8 (zs.getD i 0)))
    (hw : ∀ n ∈ zs, (Lit.int .u8 n).wf = true) : Byt w w.heap.size (some a) len (zs.take len) := by
  refine ⟨⟨by simp [bv]; omega, fun hn => ⟨a, rfl, hb hn, fun j u hu => ?_⟩⟩, fun x hx => wf_u8 (hw x (List.mem_of_mem_take hx))⟩
  simp only [bv, List.getElem?_map, List.getElem?_take] at hu
  split at hu
  · rename_i hj
    have hjl : j < zs.length := by omega
    rw [List.getElem?_eq_getElem hjl] at hu
    rw [hc j hjl]
    simp only [Option.map_some, Option.some.injEq] at hu
    rw [← hu]
    simp [List.getD, List.getElem?_eq_getElem hjl]
  · simp at hu

section
variable {H : Type} {enc : TypeId × Value → H} {P : Program} {W : World}
theorem open_byt {t e : TypeId} {base : Nat} {v : Value} {d : DataW H} {p : List MemPlace} (ht : P.underlying t = some (.slice e)) (he : P.underlying e = some (.int .u8)) (hC : P.cellsOf e = 1)
    (hok : Value.okWide P W .any base t v) (h : DataW.Trod enc P W 0 (fun _ => true) true t v d p) : ∃ A n c l, v = .slice A n c ∧ n ≤ c ∧ c ≤ maxLen ∧ Byt W W.heap.size A n l := by
  obtain ⟨a0, len0, cap0, rfl⟩ := okWide_slice ht hok
  obtain ⟨fuel, hf⟩ := h
  rcases open_ints ht he hC hf with ⟨hcs, _⟩ | ⟨x, l, c, zs, hcs, _, hl, hm, hz, _, hcell, hwz⟩
  · simp [Value.cells] at hcs
    obtain ⟨rfl, rfl, rfl⟩ := hcs
    exact ⟨none, 0, 0, [], rfl, Nat.le_refl _, Nat.zero_le _, Byt.none_ _ _⟩
  · simp [Value.cells] at hcs
    obtain ⟨rfl, rfl, rfl⟩ := hcs
    have hz' : zs.length = cap0 := by simpa using hz
    refine ⟨_, len0, cap0, zs.take len0, rfl, hl, hm, byt_of_cells hl hz' (fun hn => ?_) hcell hwz⟩
    have := World.block_lt_of_cell? W _ (hcell 0 (by omega))
    rwa [block_of_add] at this
end
end Go.Proofs.Ytmbcclgnjobikaa
