/-
  slices.Sorted(maps.Keys(m)) at maps from int to int.
-/
import Derived.Test.YtmbcclgnjobikaaBdCat
import Derived.Test.YtmbcclgnjobikaaBdSort
namespace Go.Proofs.Ytmbcclgnjobikaa
open Go Go.RowKit Go.Shelf Go.Sort Go.Maps
set_option linter.unusedVariables false
set_option linter.unusedSimpArgs false
set_option maxRecDepth 20000

/-- maps from int to int -/
theorem imI : IMap Try.prog 61 3 3 .i64 .i64 := ⟨Try.underlying61, Try.underlying3, Try.underlying3, fun w => rfl⟩
theorem keys_any (b : Nat) (w : World) : Calls Try.prog 26 #[.map (some b)] w fun e w' => ∃ g : Nat, e = .returned (.func (.func 35) #[] #[.pointer (some ⟨g, 0, none⟩)]) ∧ Pm w [.blk g 61 [.map (some b)]] w' := by
  have h := callsIn_wide.1 (AnyZI.keys_in keysLay Fence.wide 5 trivial rfl (some b) w)
  refine Calls.mono h fun e w' hh => ?_
  obtain ⟨h1, h2⟩ := hh
  subst h1 h2
  exact ⟨w.heap.size, rfl, (Pm.start w).new 61 [.map (some b)]⟩
theorem sortsI (m : Nat) : AnyZI.SortsIn Try.prog sortedLayRen Fence.wide m :=
  ⟨fun blk off cap ss W hH hblk hsz => callsIn_wide.2 (AnyM.slices_Sort_int sortLay blk off cap ss W hH hblk hsz), fun p cap W => callsIn_wide.2 (AnyM.slices_Sort_int_none sortLay p cap W)⟩
theorem mem_intKeys {w : World} {b n : Nat} {R : Value → Option (DataW Unit × List MemPlace)} {D : DataW Unit} (h : w.ownsMap Try.prog 3 R b n D) (x : Int) : x ∈ intKeys D ↔ Maps.has D (.int .i64 x) = true := by
  obtain ⟨es, rfl, hko⟩ := h.keysOf
  have hk : ∀ p ∈ es, ∃ x, p.1 = .int .i64 x := fun p hp => by
    obtain ⟨v, hv⟩ := hko p hp
    obtain ⟨x, _, hx, _⟩ := Maps.keyOf_i64 Try.underlying3 hv
    exact ⟨x, hx⟩
  rw [Maps.has_eq, List.any_eq_true]
  unfold intKeys
  rw [List.mem_map]
  constructor
  · rintro ⟨p, hp', rfl⟩
    obtain ⟨a, ha⟩ := hk p hp'
    exact ⟨p, hp', by rw [ha]; simp [Lit.sameKey, Go.intOf]⟩
  · rintro ⟨p, hp', hs⟩
    obtain ⟨a, ha⟩ := hk p hp'
    rw [ha] at hs
    exact ⟨p, hp', by rw [ha]; simpa [Lit.sameKey, Go.intOf] using hs⟩
/-- slices.Sorted at the keys of a map -/
theorem skeys_any (Bm b n : Nat) (ob : Obj) (f : Int → Option Int) (w : World) (hBm : Bm < w.heap.size) (hbox : w.cell? ⟨Bm, 0, none⟩ = some (.map (some b))) (hob : w.heap[b]? = some ob) (hm : MapII Try.prog 3 3 .i64 .i64 ob n f) (hn : n ≤ 100000) :
    Calls Try.prog 25 #[.func (.func 35) #[] #[.pointer (some ⟨Bm, 0, none⟩)]] w fun e w' => ∃ x : {y : (Option Addr × Nat) × List Int // (y.2.Pairwise (· ≤ ·) ∧ ∀ a, a ∈ y.2 ↔ ((Lit.int .i64 a).wf = true ∧ f a ≠ none)) ∧ y.2.length ≤ 100000 ∧ y.2.length ≤ y.1.2 ∧ y.1.2 ≤ maxLen}, e = .returned (.slice x.1.1.1 x.1.2.length x.1.1.2) ∧ Pm w [.row (.slice x.1.1.1 x.1.2.length x.1.1.2) 3 1 x.1.2.length (flat (ic .i64) x.1.2)] w' := by
  obtain ⟨D, ⟨hD, hsz⟩, hf⟩ := hm.owns hob
  have hlen : Maps.size D = (intKeys D).length := by
    obtain ⟨es, rfl, _⟩ := hD.keysOf
    show es.length = (es.map _).length
    rw [List.length_map]
  have hseq : SeqGives Fence.wide 2 Try.prog 35 #[.pointer (some ⟨Bm, 0, none⟩)] encZ (fun ss => ss.Perm (intKeys D)) (Maps.size D) w :=
    AnyZI.keys_gives (ρ := keysLayRen) { keysLay with } Fence.wide 2 trivial rfl (by omega) Bm b n D w hBm hbox hD
  have cS := AnyZI.sorted_in sortedLay Fence.wide 5 trivial trivial trivial trivial rfl (by omega) (sortsI _) (enters_of Try.func34 (by decide) rfl) 35 #[.pointer (some ⟨Bm, 0, none⟩)] trivial (enters_of Try.func35 (by decide) rfl) _ (Maps.size D) (by rw [hsz]; unfold maxLen; omega) (by rw [hsz]; omega) w hseq
  refine Calls.mono (callsIn_wide.1 cS) fun e w' hh => ?_
  obtain ⟨v, ss, h1, hp, hrow, _, hb⟩ := hh
  have hl2 : (ss.mergeSort (fun x y => decide (x ≤ y))).length = ss.length := List.length_mergeSort ss
  obtain ⟨A, c, rfl, hc1, hc2⟩ := own_shape hrow
  have hpm : ∀ a, a ∈ ss.mergeSort (fun x y => decide (x ≤ y)) ↔ a ∈ intKeys D := fun a => by rw [List.mem_mergeSort]; exact hp.mem_iff
  refine ⟨⟨((A, c), ss.mergeSort (fun x y => decide (x ≤ y))), ⟨?_, fun a => ?_⟩, ?_, ?_, hc2⟩, ?_, ?_⟩
  · have := List.pairwise_mergeSort (le := fun x y : Int => decide (x ≤ y)) (fun a b c h1 h2 => by simp only [decide_eq_true_eq] at *; exact Int.le_trans h1 h2) (fun a b => by simp only [Bool.or_eq_true, decide_eq_true_eq]; exact Int.le_total a b) ss
    exact this.imp fun h => of_decide_eq_true h
  · rw [hpm, mem_intKeys hD]
    constructor
    · intro hh
      have hw := intKeys_wf hD Try.underlying3 a ((mem_intKeys hD a).2 hh)
      refine ⟨hw, fun h0 => ?_⟩
      rw [(hf a hw).1, h0] at hh
      cases hh
    · rintro ⟨hw, h0⟩
      rw [(hf a hw).1]
      cases hfa : f a with
      | none => exact absurd hfa h0
      | some _ => rfl
  · show (ss.mergeSort _).length ≤ _
    rw [hl2, hp.length_eq, ← hlen, hsz]; exact hn
  · show (ss.mergeSort _).length ≤ _
    rw [hl2]; exact hc1
  · show e = .returned (.slice A (ss.mergeSort _).length c)
    rw [hl2]; exact h1
  · show Pm w [.row (.slice A (ss.mergeSort _).length c) _ 1 (ss.mergeSort _).length (flat (ic .i64) (ss.mergeSort _))] w'
    rw [hl2, flat_ic]
    exact (Pm.start w).add hb hrow


end Go.Proofs.Ytmbcclgnjobikaa
