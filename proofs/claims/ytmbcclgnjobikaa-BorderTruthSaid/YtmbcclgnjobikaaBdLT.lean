/-
  The walk of BorderTruth.
-/
import Derived.Test.YtmbcclgnjobikaaBdAwk
import Derived.Test.YtmbcclgnjobikaaDcDraw
namespace Go.Proofs.Ytmbcclgnjobikaa
open Go.RowKit
set_option linter.unusedVariables false
set_option linter.unusedSimpArgs false
set_option maxRecDepth 20000
/-- the routers' owners, the registry and the path, of i - 1 hops -/
structure TrI (i : Nat) (ow : List Int) (es : List En) (ps : List Int) : Prop where
  pos : 1 ≤ i
  le : i ≤ 8
  lo : ow.length = i
  le_ : es.length = i - 1
  lp : ps.length = i - 1
  ro : ∀ o ∈ ow, 1 ≤ o ∧ o ≤ 3
  en : ∀ (j : Nat) (e : En), es[j]? = some e → ∃ o, e = ⟨((j + 1 : Nat) : Int), 32, o, 0, 9⟩ ∧ (ow[j + 1]? = some o ∨ ow[j]? = some o)
  pa : ∀ (j : Nat) (a : Int), ps[j]? = some a → a = ((j + 1 : Nat) : Int) ∨ a = 0
theorem TrI.start {q : Nat} (h : q ≤ 1) : TrI 1 [1 + ((q : Nat) : Int)] [] [] :=
  ⟨Nat.le_refl _, by decide, rfl, rfl, rfl, fun o ho => by rw [List.mem_singleton.1 ho]; omega, fun j e h => by simp at h, fun j e h => by simp at h⟩
theorem snoc_get {α : Type} {l : List α} {x y : α} {j : Nat} (h : (l ++ [x])[j]? = some y) : l[j]? = some y ∨ (j = l.length ∧ y = x) := by
  rcases Nat.lt_or_ge j l.length with h1 | h1
  · rw [List.getElem?_append_left h1] at h; exact .inl h
  · rw [List.getElem?_append_right h1] at h
    have h2 := (List.getElem?_eq_some_iff.1 h).1
    simp only [List.length_singleton] at h2
    obtain rfl : j = l.length := by omega
    rw [Nat.sub_self] at h
    exact .inr ⟨rfl, by simpa using h.symm⟩
theorem get_snoc {α : Type} {l : List α} {y : α} {j : Nat} (x : α) (h : l[j]? = some y) : (l ++ [x])[j]? = some y := by
  rw [List.getElem?_append_left (List.getElem?_eq_some_iff.1 h).1]; exact h
theorem last_at {l : List Int} {v x : Int} {i : Nat} (hl : l.length = i) (h : (l ++ [v])[i]? = some x) : x = v := by
  subst hl
  rw [List.getElem?_append_right (Nat.le_refl _), Nat.sub_self] at h
  simpa using h.symm
theorem prev_at {l : List Int} {v x : Int} {i : Nat} (hl : l.length = i) (hi : 1 ≤ i) (h : (l ++ [v])[i - 1]? = some x) : l[i - 1]? = some x := by
  rwa [List.getElem?_append_left (by omega)] at h
theorem TrI.step {i : Nat} {ow : List Int} {es : List En} {ps : List Int} {nv o a : Int} (h : TrI i ow es ps) (hi : i ≤ 7) (hn : 1 ≤ nv ∧ nv ≤ 3) (ho : o = nv ∨ ow[i - 1]? = some o) (ha : a = ((i : Nat) : Int) ∨ a = 0) : TrI (i + 1) (ow ++ [nv]) (es ++ [⟨((i : Nat) : Int), 32, o, 0, 9⟩]) (ps ++ [a]) := by
  have hp := h.pos
  refine ⟨by omega, by omega, by rw [List.length_append, h.lo]; rfl, by rw [List.length_append, h.le_]; show i - 1 + 1 = _; omega, by rw [List.length_append, h.lp]; show i - 1 + 1 = _; omega, fun z hz => ?_, fun j e he => ?_, fun j z hz => ?_⟩
  · rcases List.mem_append.1 hz with hz | hz
    · exact h.ro z hz
    · rw [List.mem_singleton.1 hz]; exact hn
  · rcases snoc_get he with h1 | ⟨h1, h2⟩
    · obtain ⟨o', h3, h4⟩ := h.en j e h1
      exact ⟨o', h3, h4.imp (get_snoc _) (get_snoc _)⟩
    · rw [h.le_] at h1
      have e1 : j + 1 = i := by omega
      refine ⟨o, by rw [h2, e1], ?_⟩
      rcases ho with rfl | ho
      · left
        rw [e1, List.getElem?_append_right (by rw [h.lo]; exact Nat.le_refl _), h.lo, Nat.sub_self]
        rfl
      · right
        rw [h1]
        exact get_snoc _ ho
  · rcases snoc_get hz with h1 | ⟨h1, h2⟩
    · exact h.pa j z h1
    · rw [h.lp] at h1
      rw [h2, show j + 1 = i by omega]
      exact ha
theorem vld32 (k : Nat) (hk : k < 9) : vldP ((k : Nat) : Int) 32 = true := by
  have key : ∀ k : Fin 9, vldP ((k.val : Nat) : Int) 32 = true := by decide +kernel
  exact key ⟨k, hk⟩
theorem has32 (k m : Nat) (hk : k < 9) (hm : m < 9) : hasP ((k : Nat) : Int) 32 ((m : Nat) : Int) = decide (m = k) := by
  have key : ∀ k m : Fin 9, hasP ((k.val : Nat) : Int) 32 ((m.val : Nat) : Int) = decide (m.val = k.val) := by decide +kernel
  exact key ⟨k, hk⟩ ⟨m, hm⟩
theorem TrI.valid {i : Nat} {ow : List Int} {es : List En} {ps : List Int} (h : TrI i ow es ps) : validR es = true := by
  have hp := h.pos
  have hle := h.le
  have hl := h.le_
  refine validR_true (by omega) fun j hj => ?_
  obtain ⟨e, he⟩ : ∃ e, es[j]? = some e := ⟨_, List.getElem?_eq_getElem hj⟩
  obtain ⟨o, rfl, ho⟩ := h.en j e he
  have hor : 1 ≤ o ∧ o ≤ 3 := ho.elim (fun h1 => h.ro o (List.mem_of_getElem? h1)) (fun h1 => h.ro o (List.mem_of_getElem? h1))
  have hv : validE ⟨((j + 1 : Nat) : Int), 32, o, 0, 9⟩ = true := by
    have := vld32 (j + 1) (by omega)
    simp only [validE, this, Bool.true_and, Bool.and_eq_true, decide_eq_true_eq]
    omega
  rcases Nat.eq_zero_or_pos j with h0 | h0
  · exact okAt_zero h0 he hv
  · obtain ⟨b, hb⟩ : ∃ b, es[j - 1]? = some b := ⟨_, List.getElem?_eq_getElem (by omega)⟩
    obtain ⟨o2, rfl, _⟩ := h.en (j - 1) b hb
    refine okAt_pair (t := true) (by omega) he hb hv ?_
    have hc : cmpI ((j - 1 + 1 : Nat) : Int) ((j + 1 : Nat) : Int) = -1 := by unfold cmpI; rw [if_pos (by omega)]
    have hc2 : cmpP ((j - 1 + 1 : Nat) : Int) 32 ((j + 1 : Nat) : Int) 32 = -1 := by unfold cmpP; rw [hc]; rfl
    show (decide (cmpP ((j - 1 + 1 : Nat) : Int) 32 ((j + 1 : Nat) : Int) 32 > 0) || (decide (cmpP ((j - 1 + 1 : Nat) : Int) 32 ((j + 1 : Nat) : Int) 32 = 0) && decide ((0 : Int) < 9))) = !true
    rw [hc2]
    decide
theorem TrI.look {i : Nat} {ow : List Int} {es : List En} {ps : List Int} (h : TrI i ow es ps) {j : Nat} {e : En} (he : es[j]? = some e) : lookR es ((j + 1 : Nat) : Int) 3 = (e, true) := by
  have hp := h.pos
  have hle := h.le
  have hl := h.le_
  have hjl := (List.getElem?_eq_some_iff.1 he).1
  have key : ∀ n, n ≤ es.length → lookR (es.take n) ((j + 1 : Nat) : Int) 3 = if j < n then (e, true) else (En.zero, false) := fun n => by
    induction n with
    | zero => exact fun _ => rfl
    | succ n ih =>
      intro hn
      obtain ⟨x, hx⟩ : ∃ x, es[n]? = some x := ⟨_, List.getElem?_eq_getElem (by omega)⟩
      rw [lookR_snoc hx (ih (by omega))]
      obtain ⟨o, hxo, _⟩ := h.en n x hx
      obtain ⟨o2, heo, _⟩ := h.en j e he
      have hh := has32 (n + 1) (j + 1) (by omega) (by omega)
      have hf : ∀ p : En × Bool, j ≠ n → fitsE ((j + 1 : Nat) : Int) 3 p x = false := fun p hne => by
        rw [hxo]
        unfold fitsE
        rw [hh, decide_eq_false (show ¬ (j + 1 = n + 1) by omega), Bool.and_false]
      rcases Nat.lt_trichotomy j n with h1 | h1 | h1
      · rw [hf _ (by omega), if_pos h1, if_pos (show j < n + 1 by omega)]
        rfl
      · subst h1
        rw [he] at hx
        cases hx
        have e1 : fitsE ((j + 1 : Nat) : Int) 3 (En.zero, false) e = true := by
          rw [hxo]
          unfold fitsE
          rw [hh]
          simp
        rw [if_neg (show ¬ j < j by omega), if_pos (show j < j + 1 by omega), e1]
        rfl
      · rw [hf _ (by omega), if_neg (show ¬ j < n by omega), if_neg (show ¬ j < n + 1 by omega)]
        rfl
  have := key es.length (Nat.le_refl _)
  rwa [List.take_length, if_pos hjl] at this
theorem TrI.prov {i : Nat} {ow : List Int} {es : List En} {ps : List Int} (h : TrI i ow es ps) {j : Nat} (hj : j < es.length) : ow[j + 1]? = some (provR es ((j + 1 : Nat) : Int) 3) ∨ ow[j]? = some (provR es ((j + 1 : Nat) : Int) 3) := by
  obtain ⟨e, he⟩ : ∃ e, es[j]? = some e := ⟨_, List.getElem?_eq_getElem hj⟩
  obtain ⟨o, h1, h2⟩ := h.en j e he
  have h3 : provR es ((j + 1 : Nat) : Int) 3 = o := by
    unfold provR lookV
    rw [if_pos h.valid, h.look he, h1]
  rw [h3]
  exact h2
theorem win_mem {ps own : List Int} : ∀ n, ((winS ps own n).1 = -1 ∨ ∃ l : Nat, l < n ∧ (winS ps own n).1 = (l : Int) ∧ own.getD l 0 ≠ 0) ∧ ∀ x ∈ (winS ps own n).2, ∃ l j : Nat, l < j ∧ j < n ∧ own.getD l 0 ≠ 0 ∧ own.getD j 0 ≠ 0 ∧ x.frm = own.getD l 0 ∧ x.to_ = own.getD j 0 ∧ x.far = ps.getD j 0 ∧ x.near = if 0 < l then ps.getD (l - 1) 0 else 0
  | 0 => ⟨.inl rfl, fun x hx => absurd hx List.not_mem_nil⟩
  | n + 1 => by
    obtain ⟨h1, h2⟩ := win_mem (ps := ps) (own := own) n
    have up : ∀ x ∈ (winS ps own n).2, ∃ l j : Nat, l < j ∧ j < n + 1 ∧ own.getD l 0 ≠ 0 ∧ own.getD j 0 ≠ 0 ∧ x.frm = own.getD l 0 ∧ x.to_ = own.getD j 0 ∧ x.far = ps.getD j 0 ∧ x.near = if 0 < l then ps.getD (l - 1) 0 else 0 := fun x hx => by
      obtain ⟨l, j, a1, a2, a3⟩ := h2 x hx
      exact ⟨l, j, a1, by omega, a3⟩
    show ((stepW ps own (winS ps own n) n).1 = -1 ∨ ∃ l : Nat, l < n + 1 ∧ (stepW ps own (winS ps own n) n).1 = (l : Int) ∧ own.getD l 0 ≠ 0) ∧ ∀ x ∈ (stepW ps own (winS ps own n) n).2, _
    unfold stepW
    split
    · exact ⟨h1.imp id fun ⟨l, a1, a2⟩ => ⟨l, by omega, a2⟩, up⟩
    · rename_i h0
      refine ⟨.inr ⟨n, by omega, rfl, h0⟩, ?_⟩
      dsimp only
      split
      · rename_i hc
        intro x hx
        rcases List.mem_append.1 hx with hx | hx
        · exact up x hx
        · rw [List.mem_singleton.1 hx]
          rcases h1 with h1 | ⟨l, a1, a2, a3⟩
          · have := hc.1; omega
          · refine ⟨l, n, a1, by omega, a3, h0, ?_, rfl, rfl, ?_⟩
            · show own.getD (winS ps own n).1.toNat 0 = _
              rw [a2, Int.toNat_natCast]
            · show (if (winS ps own n).1 > 0 then _ else _) = _
              rw [a2, Int.toNat_natCast]
              by_cases hl : 0 < l
              · rw [if_pos (by omega), if_pos hl]
              · rw [if_neg (by omega), if_neg hl]
      · exact up
/-- a window has routers of both providers -/
theorem truth_ok {i : Nat} {ow : List Int} {es : List En} {ps : List Int} (h : TrI i ow es ps) {x : Bd} (hx : x ∈ winV es 3 ps) : ∃ nr fr : Nat, x.near = ((nr : Nat) : Int) ∧ x.far = ((fr : Nat) : Int) ∧ fr < ow.length ∧ (∃ m, nr ≤ m ∧ m ≤ fr ∧ ow[m]? = some x.frm) ∧ ∃ m, nr ≤ m ∧ m ≤ fr ∧ ow[m]? = some x.to_ := by
  have hp := h.pos
  have hlo := h.lo
  have hle := h.le_
  have hlp := h.lp
  obtain ⟨l, j, h1, h2, h3, h4, h5, h6, h7, h8⟩ := (win_mem (ps := ps) (own := ownF es 3 ps) ps.length).2 x hx
  have get : ∀ k, k < ps.length → (ownF es 3 ps).getD k 0 ≠ 0 → ps.getD k 0 = ((k + 1 : Nat) : Int) ∧ (ownF es 3 ps).getD k 0 = provR es ((k + 1 : Nat) : Int) 3 := fun k hk hnz => by
    have e1 : (ownF es 3 ps).getD k 0 = ownE es 3 ps[k] := by rw [List.getD_eq_getElem?_getD, ownF, List.getElem?_map, List.getElem?_eq_getElem hk]; rfl
    have e2 : ps.getD k 0 = ps[k] := by rw [List.getD_eq_getElem?_getD, List.getElem?_eq_getElem hk]; rfl
    rw [e1] at hnz ⊢
    rw [e2]
    unfold ownE at hnz ⊢
    split at hnz
    · exact absurd rfl hnz
    · rename_i h0
      rcases h.pa k _ (List.getElem?_eq_getElem hk) with h9 | h9
      · exact ⟨h9, by rw [if_neg h0, h9]⟩
      · exact absurd h9 h0
  obtain ⟨g1, g2⟩ := get l (by omega) h3
  obtain ⟨g3, g4⟩ := get j h2 h4
  have near : ∃ nr : Nat, x.near = ((nr : Nat) : Int) ∧ nr ≤ l := by
    rw [h8]
    split
    · rename_i hl
      rw [List.getD_eq_getElem?_getD, List.getElem?_eq_getElem (by omega)]
      rcases h.pa (l - 1) _ (List.getElem?_eq_getElem (by omega)) with h9 | h9
      · exact ⟨l - 1 + 1, by rw [h9]; rfl, by omega⟩
      · exact ⟨0, by rw [h9]; rfl, Nat.zero_le _⟩
    · exact ⟨0, rfl, Nat.zero_le _⟩
  obtain ⟨nr, n1, n2⟩ := near
  have pl := h.prov (j := l) (by omega)
  have pj := h.prov (j := j) (by omega)
  rw [← g2, ← h5] at pl
  rw [← g4, ← h6] at pj
  refine ⟨nr, j + 1, n1, by rw [h7, g3], by omega, ?_, ?_⟩
  · rcases pl with e | e
    · exact ⟨l + 1, by omega, by omega, e⟩
    · exact ⟨l, n2, by omega, e⟩
  · rcases pj with e | e
    · exact ⟨j + 1, by omega, by omega, e⟩
    · exact ⟨j, by omega, by omega, e⟩
theorem seen_none {ow : List Int} {n : Nat} {v : Int} : false = true ↔ ∃ m, n ≤ m ∧ m < n ∧ ow[m]? = some v := by
  constructor
  · intro h; cases h
  · rintro ⟨m, h1, h2, _⟩; omega
theorem seen_old {ow : List Int} {n c : Nat} {v : Int} (h : true = true ↔ ∃ m, n ≤ m ∧ m < c ∧ ow[m]? = some v) : true = true ↔ ∃ m, n ≤ m ∧ m < c + 1 ∧ ow[m]? = some v := by
  obtain ⟨m, h1, h2, h3⟩ := h.1 rfl
  exact iff_of_true rfl ⟨m, h1, by omega, h3⟩
theorem seen_now {ow : List Int} {n c : Nat} {v x : Int} (hc : n ≤ c) (hx : ow[c]? = some x) (he : x = v) : true = true ↔ ∃ m, n ≤ m ∧ m < c + 1 ∧ ow[m]? = some v :=
  iff_of_true rfl ⟨c, hc, by omega, by rw [hx, he]⟩
theorem seen_not {ow : List Int} {n c : Nat} {v x : Int} (h : false = true ↔ ∃ m, n ≤ m ∧ m < c ∧ ow[m]? = some v) (hx : ow[c]? = some x) (he : ¬ x = v) : false = true ↔ ∃ m, n ≤ m ∧ m < c + 1 ∧ ow[m]? = some v := by
  constructor
  · intro h; cases h
  · rintro ⟨m, h1, h2, h3⟩
    rcases Nat.lt_or_ge m c with h4 | h4
    · exact h.2 ⟨m, h1, h4, h3⟩
    · obtain rfl : m = c := by omega
      rw [hx] at h3
      cases h3
      exact absurd rfl he
theorem win_len {ps own : List Int} : ∀ n, (winS ps own n).2.length ≤ n
  | 0 => Nat.le_refl _
  | n + 1 => by
    have h := win_len (ps := ps) (own := own) n
    show (stepW ps own (winS ps own n) n).2.length ≤ n + 1
    unfold stepW
    split
    · omega
    · dsimp only
      split
      · rw [List.length_append]; show _ + 1 ≤ _; omega
      · omega
theorem bltnm6 : (Try.f6.name == "runtime.NumGoroutine") = false := by decide
theorem bltbd6 : Try.f6.body.isNone = false := rfl
theorem bltnm7 : (Try.f7.name == "runtime.NumGoroutine") = false := by decide
theorem bltbd7 : Try.f7.body.isNone = false := rfl
theorem bltzv34 (w : World) : (zeroValue 34).run Try.prog w = .ok (.agg #[.slice none 0 0]) w := rfl
theorem bltnm8 : (Try.f8.name == "runtime.NumGoroutine") = false := by decide
theorem bltbd8 : Try.f8.body.isNone = false := rfl
theorem bltbs30_1_5377 (a0_0 : Int) (w : World) : (Instr.buildSlice 30 1 #[(0, .int .i64 a0_0)]).run Try.prog w = .ok (.slice (some ⟨w.heap.size, 0, none⟩) 1 1) (w.alloc (.cells [.int .i64 a0_0].toArray 3)) := by kernel_rfl
theorem bltel30 : Elem Try.prog 30 3 1 8 := Elem.mk' Try.underlying30 (z := .int .i64 0) (by kernel_rfl) rfl (by omega) (by omega)
theorem bltsz3 (w : World) : (sizeOf 3).run Try.prog w = .ok 1 w := rfl
theorem bltag3 (w : World) : (isAgg 3).run Try.prog w = .ok false w := rfl
theorem bltnm12 : (Try.f12.name == "runtime.NumGoroutine") = false := by decide
theorem bltbd12 : Try.f12.body.isNone = false := rfl
theorem bltfld34_0 (g o : Nat) (w : World) : (Instr.fieldAt 34 (.pointer (some ⟨g, o, none⟩)) 0).run Try.prog w = .ok (.pointer (some ⟨g, o + 0, none⟩)) w := by kernel_rfl
theorem bltag32 (w : World) : (isAgg 32).run Try.prog w = .ok false w := rfl
theorem bltbld43_27253 (a0_0 : Int) (a1_0 : Int) (w : World) : (Instr.build 43 #[(0, .int .u32 a0_0), (1, .int .i64 a1_0)]).run Try.prog w = .ok (.agg #[.int .u32 a0_0, .int .i64 a1_0]) w := by kernel_rfl
theorem bltbld45_98459 (a0_0 : Int) (a0_1 : Int) (a1_0 : Int) (a3_0 : Int) (w : World) : (Instr.build 45 #[(0, .agg #[.int .u32 a0_0, .int .i64 a0_1]), (1, .int .i64 a1_0), (3, .int .i64 a3_0)]).run Try.prog w = .ok (.agg #[.int .u32 a0_0, .int .i64 a0_1, .int .i64 a1_0, .int .i64 0, .int .i64 a3_0]) w := by kernel_rfl
theorem bltbs32_1_22095 (a0_0 : Int) (a0_1 : Int) (a0_2 : Int) (a0_3 : Int) (a0_4 : Int) (w : World) : (Instr.buildSlice 32 1 #[(0, .agg #[.int .u32 a0_0, .int .i64 a0_1, .int .i64 a0_2, .int .i64 a0_3, .int .i64 a0_4])]).run Try.prog w = .ok (.slice (some ⟨w.heap.size, 0, none⟩) 1 1) (w.alloc (.cells [.int .u32 a0_0, .int .i64 a0_1, .int .i64 a0_2, .int .i64 a0_3, .int .i64 a0_4].toArray 45)) := by kernel_rfl
theorem bltel32 : Elem Try.prog 32 45 5 40 := Elem.mk' Try.underlying32 (z := .agg #[.int .u32 0, .int .i64 0, .int .i64 0, .int .i64 0, .int .i64 0]) (by kernel_rfl) rfl (by omega) (by omega)
theorem bltsz32 (w : World) : (sizeOf 32).run Try.prog w = .ok 1 w := rfl
theorem bltone_s {a0 : Option Addr} {n0 c0 : Nat} : ∀ u ∈ [(.slice a0 n0 c0 : Value)], u.oneCell' = true := by
  intro u hu
  rw [List.mem_singleton] at hu
  subst hu; rfl
theorem bltbs26_1_5377 (a0_0 : Int) (w : World) : (Instr.buildSlice 26 1 #[(0, .int .u32 a0_0)]).run Try.prog w = .ok (.slice (some ⟨w.heap.size, 0, none⟩) 1 1) (w.alloc (.cells [.int .u32 a0_0].toArray 29)) := by kernel_rfl
theorem bltel26 : Elem Try.prog 26 29 1 4 := Elem.mk' Try.underlying26 (z := .int .u32 0) (by kernel_rfl) rfl (by omega) (by omega)
theorem bltag34 (w : World) : (isAgg 34).run Try.prog w = .ok true w := rfl
theorem bltsz34 (w : World) : (sizeOf 34).run Try.prog w = .ok 1 w := rfl
theorem bltnm11 : (Try.f11.name == "runtime.NumGoroutine") = false := by decide
theorem bltbd11 : Try.f11.body.isNone = false := rfl
theorem bltsz39 (w : World) : (sizeOf 39).run Try.prog w = .ok 4 w := rfl
theorem bltag39 (w : World) : (isAgg 39).run Try.prog w = .ok true w := rfl
theorem bltzv39 (w : World) : (zeroValue 39).run Try.prog w = .ok (.agg #[.int .u32 0, .int .u32 0, .int .i64 0, .int .i64 0]) w := rfl
theorem bltfld39_0 (g o : Nat) (w : World) : (Instr.fieldAt 39 (.pointer (some ⟨g, o, none⟩)) 0).run Try.prog w = .ok (.pointer (some ⟨g, o + 0, none⟩)) w := by kernel_rfl
theorem bltag29 (w : World) : (isAgg 29).run Try.prog w = .ok false w := rfl
theorem bltfld39_1 (g o : Nat) (w : World) : (Instr.fieldAt 39 (.pointer (some ⟨g, o, none⟩)) 1).run Try.prog w = .ok (.pointer (some ⟨g, o + 1, none⟩)) w := by kernel_rfl
theorem bltfld39_3 (g o : Nat) (w : World) : (Instr.fieldAt 39 (.pointer (some ⟨g, o, none⟩)) 3).run Try.prog w = .ok (.pointer (some ⟨g, o + 3, none⟩)) w := by kernel_rfl
theorem bltfld39_2 (g o : Nat) (w : World) : (Instr.fieldAt 39 (.pointer (some ⟨g, o, none⟩)) 2).run Try.prog w = .ok (.pointer (some ⟨g, o + 2, none⟩)) w := by kernel_rfl
set_option maxHeartbeats 1000000 in
theorem borderTruth_walk (A0 : Option Addr) (n0 c0 : Nat) (l0 : List Int) (w : World) (hb0 : Byt w w.heap.size A0 n0 l0) (hc0 : n0 ≤ c0) (hm0 : c0 ≤ maxLen) :
    Calls Try.prog 4 #[.slice A0 n0 c0] w fun e w' => e = .returned (.bool true) ∧ Below w.heap.size w w' := by
  have hn0 : (n0 : Int) ≤ 9223372036854775807 := by unfold maxLen at hm0; omega
  refine begin_ (vs := [.slice A0 n0 c0]) Try.func4 rfl rfl rfl ?_ (Pm.start w)
  refine TC.seq_ ?_
  refine TC.region ?_
  refine TL.val rfl rfl rfl (gives_assign rfl rfl) ?_
  refine TL.end_ ?_
  refine TX.then_ ?_
  refine TC.seq_ ?_
  refine TC.seq_ ?_
  refine TC.region ?_
  refine TL.pcall1 (r := .bool true) rfl rfl rfl rfl rfl Try.func6 bltnm6 bltbd6 (fun w1 hw => awake_true w1) ?_
  refine TL.val rfl rfl rfl (gives_boolnot rfl rfl) ?_
  refine TL.end_ ?_
  refine TX.then_ ?_
  refine TC.condF rfl ?_
  refine TC.skip_ ?_
  refine TX.then_ ?_
  refine TC.seq_ ?_
  refine TC.region ?_
  refine TL.val rfl rfl rfl (gives_move rfl rfl) ?_
  refine TL.callNew (I := Pm w []) (p := fun cb w => Cod w cb) rfl rfl rfl rfl rfl Try.func7 bltnm7 bltbd7 (fun w1 hw => (roll_any A0 n0 c0 l0 w1 ((hb0.below hw.bel).more hw.bel.size) hc0 hn0).mono fun e w2 ⟨h1, h2, h3⟩ => ⟨h1, h2, cod_cells h2, h3⟩) cod_stab (fun wn hwn => ?_)
  have hwb := hwn.bel
  refine TL.val rfl rfl rfl (gives_assign rfl rfl) ?_
  refine TL.end_ ?_
  refine TX.then_ ?_
  refine TC.seq_ ?_
  refine TC.region ?_
  refine TL.val rfl rfl rfl (gives_assign rfl rfl) ?_
  refine TL.end_ ?_
  refine TX.then_ ?_
  refine TC.seq_ ?_
  refine TC.region ?_
  refine TL.val rfl rfl rfl (gives_assign rfl rfl) ?_
  refine TL.end_ ?_
  refine TX.then_ ?_
  refine TC.seq_ ?_
  refine TC.region ?_
  refine TL.pnew rfl rfl rfl (exec_alloc (cs := [.slice none 0 0]) rfl bltzv34 rfl) (fun g6 => ?_)
  refine TL.end_ ?_
  refine TX.then_ ?_
  refine TC.seq_ ?_
  refine TC.region ?_
  refine TL.val rfl rfl rfl (gives_move rfl rfl) ?_
  refine TL.val rfl rfl rfl (gives_move rfl rfl) ?_
  refine TL.pcallCod (k := 1) (α := {q9 : Nat // q9 ≤ 65535 ∧ (1 ≤ (2 : Int) → (q9 : Int) < 2)}) (fun q9 => .int .i64 ((q9.1 : Nat) : Int)) (fun q9 => []) rfl rfl rfl rfl rfl Try.func8 bltnm8 bltbd8 rfl (fun w1 hw hC1 => next_cod wn.heap.size w1 2 hC1) ?_
  rintro ⟨q0, hq01, hq02⟩
  dsimp only [List.cons_append, List.nil_append]
  refine TL.val rfl rfl rfl (gives_bin rfl rfl rfl (fun w => bin_add_ (r := 1 + ((q0 : Nat) : Int)) (by simp only [IntKind.wrap_i64]; omega) w)) ?_
  refine TL.prowS (e := 3) (size := 1) (cs := flat (ic .i64) [1 + ((q0 : Nat) : Int)]) rfl rfl rfl rfl rfl (fun w => bltbs30_1_5377 _ w) (by decide) rfl (fun g25 => ?_)
  refine TL.nilrow 3 1 ?_
  refine TL.appendT (k := 0) rfl rfl rfl rfl Try.underlying30 bltel30 rfl rfl rfl (fun w1 hw => pm_reads hw (k := 1) rfl) (flat_one (ic_cel .i64) _) (by show _ * 8 ≤ _; omega) (([1 + ((q0 : Nat) : Int)]).length) (by simp) (flat (ic .i64) ([1 + ((q0 : Nat) : Int)])) (rfl) (fun A26 c26 hA261 hA262 => ?_)
  refine TL.val rfl rfl rfl (gives_assign rfl rfl) ?_
  refine TL.end_ ?_
  refine TX.then_ ?_
  refine TC.seq_ ?_
  refine TC.seq_ ?_
  refine TC.region ?_
  refine TL.val rfl rfl rfl (gives_assign rfl rfl) ?_
  refine TL.end_ ?_
  refine TX.then_ ?_
  refine TC.block ?_
  refine TC.nilrow 29 1 ?_
  refine TC.nilrow 45 5 ?_
  refine TC.mem (I' := Pm wn [.row (.slice A26 (([1 + ((q0 : Nat) : Int)]).length) c26) 3 1 (([1 + ((q0 : Nat) : Int)]).length) (flat (ic .i64) ([1 + ((q0 : Nat) : Int)])), .row (.slice none (0) 0) 45 5 (0) (flat En.cells ([])), .row (.slice none (0) 0) 29 1 (0) (flat (ic .u32) ([])), .blk g6 34 [.slice none (0) 0], .abs wn.heap.size (fun w => Cod w wn.heap.size)]) (fun w1 hw => hw.pick [2, 0, 1, 4, 5] (by decide) rfl) ?_
  refine TC.loop_ (α := {y : Nat × ((Option Addr × Nat) × List Int) × ((Option Addr × Nat) × List En) × ((Option Addr × Nat) × List Int) // TrI y.1 y.2.1.2 y.2.2.1.2 y.2.2.2.2 ∧ (y.2.1.2.length ≤ y.2.1.1.2 ∧ y.2.1.1.2 ≤ maxLen) ∧ (y.2.2.1.2.length ≤ y.2.2.1.1.2 ∧ y.2.2.1.1.2 ≤ maxLen) ∧ y.2.2.2.2.length ≤ y.2.2.2.1.2 ∧ y.2.2.2.1.2 ≤ maxLen}) (fun y => [(3, .pointer (some ⟨wn.heap.size, 0, none⟩)), (6, .pointer (some ⟨g6, 0, none⟩)), (4, .slice y.1.2.1.1.1 y.1.2.1.2.length y.1.2.1.1.2), (5, .slice y.1.2.2.2.1.1 y.1.2.2.2.2.length y.1.2.2.2.1.2), (7, .int .i64 ((y.1.1 : Nat) : Int))]) (fun y => Pm wn [.row (.slice y.1.2.1.1.1 y.1.2.1.2.length y.1.2.1.1.2) 3 1 y.1.2.1.2.length (flat (ic .i64) y.1.2.1.2), .row (.slice y.1.2.2.1.1.1 y.1.2.2.1.2.length y.1.2.2.1.1.2) 45 5 y.1.2.2.1.2.length (flat En.cells y.1.2.2.1.2), .row (.slice y.1.2.2.2.1.1 y.1.2.2.2.2.length y.1.2.2.2.1.2) 29 1 y.1.2.2.2.2.length (flat (ic .u32) y.1.2.2.2.2), .blk g6 34 [.slice y.1.2.2.1.1.1 y.1.2.2.1.2.length y.1.2.2.1.1.2], .abs wn.heap.size (fun w => Cod w wn.heap.size)]) (fun y => 8 - y.1.1) (⟨(1, ((A26, c26), [1 + ((q0 : Nat) : Int)]), ((none, 0), []), ((none, 0), [])), TrI.start (by omega), ⟨hA261, hA262⟩, ⟨Nat.le_refl _, Nat.zero_le _⟩, Nat.le_refl _, Nat.zero_le _⟩) ⟨rfl, rfl, rfl, rfl, rfl, trivial⟩ (fun w1 hw => hw) ?_
  rintro ⟨⟨i, ⟨⟨Ao, co⟩, ow⟩, ⟨⟨Ae, ce⟩, es⟩, ⟨Ap, cp⟩, ps⟩, hT, ⟨hoc, hom⟩, ⟨hec, hem⟩, hpc, hpm⟩
  dsimp only at hT hoc hom hec hem hpc hpm ⊢
  have hi8 := hT.le
  have hi1 := hT.pos
  have hol : ow.length = i := hT.lo
  refine TC.seq_ ?_
  refine TC.seq_ ?_
  refine TC.region ?_
  refine TL.val rfl rfl rfl (gives_move rfl rfl) ?_
  refine TL.val rfl rfl rfl (gives_move rfl rfl) ?_
  refine TL.pcallCod (k := 4) (α := {q9 : Nat // q9 ≤ 65535 ∧ (1 ≤ (7 : Int) → (q9 : Int) < 7)}) (fun q9 => .int .i64 ((q9.1 : Nat) : Int)) (fun q9 => []) rfl rfl rfl rfl rfl Try.func8 bltnm8 bltbd8 rfl (fun w1 hw hC1 => next_cod wn.heap.size w1 7 hC1) ?_
  rintro ⟨q29, hq291, hq292⟩
  dsimp only [List.cons_append, List.nil_append]
  refine TL.val rfl rfl rfl (gives_bin rfl rfl rfl (fun w => bin_add_ (r := ((2 + q29 : Nat) : Int)) (by simp only [IntKind.wrap_i64]; omega) w)) ?_
  refine TL.vsplit rfl rfl rfl (gives_bin rfl rfl rfl (fun w => bin_lss w)) (fun h31 => ?_) (fun h31 => ?_)
  · have q31 := of_decide_eq_true h31
    have hi7 : i ≤ 7 := by omega
    refine TL.end_ ?_
    refine TX.then_ ?_
    refine TC.condT rfl ?_
    refine TC.skip_ ?_
    refine TX.then_ ?_
    refine TC.seq_ ?_
    refine TC.block ?_
    refine TC.join (α := {y : (Option Addr × Nat) × Int // (1 ≤ y.2 ∧ y.2 ≤ 3) ∧ (ow ++ [y.2]).length ≤ y.1.2 ∧ y.1.2 ≤ maxLen}) (fun y => [(3, .pointer (some ⟨wn.heap.size, 0, none⟩)), (4, .slice y.1.1.1 ((ow ++ [y.1.2]).length) y.1.1.2), (5, .slice Ap ps.length cp), (6, .pointer (some ⟨g6, 0, none⟩)), (7, .int .i64 ((i : Nat) : Int))]) (fun y => Pm wn [.row (.slice y.1.1.1 ((ow ++ [y.1.2]).length) y.1.1.2) 3 1 ((ow ++ [y.1.2]).length) (flat (ic .i64) (ow ++ [y.1.2])), .row (.slice Ae es.length ce) 45 5 es.length (flat En.cells es), .row (.slice Ap ps.length cp) 29 1 ps.length (flat (ic .u32) ps), .blk g6 34 [.slice Ae es.length ce], .abs wn.heap.size (fun w => Cod w wn.heap.size)]) ?_ ?_
    · refine TC.fact (p := ∃ g, Ao = some ⟨g, 0, none⟩) (fun w1 hw => rowA hw (k := 0) rfl (by omega)) ?_
      rintro ⟨g_Ao, rfl⟩
      have hol : ow.length = i := hT.lo
      refine TC.held (ls := #[false, false, false, false, false, false, false, false, false, false, false, false, false, false, false, false]) (fun _ => True) (by kernel_rfl) rfl rfl (fun w hw => hw.drawn _) ?_
      refine TH.take (listed' := #[true, false, false, false, false, false, false, false, false, false, false, false, false, false, false, false]) 0 rfl (by kernel_rfl) (by kernel_rfl) (by kernel_rfl) rfl rfl rfl rfl (gives_move rfl rfl) (fun _ _ => trivial) ?_
      refine TH.take (listed' := #[true, true, false, false, false, false, false, false, false, false, false, false, false, false, false, false]) 1 rfl (by kernel_rfl) (by kernel_rfl) (by kernel_rfl) rfl rfl rfl rfl (gives_move rfl rfl) (fun _ _ => trivial) ?_
      refine TH.take (listed' := #[true, true, true, false, false, false, false, false, false, false, false, false, false, false, false, false]) 2 rfl (by kernel_rfl) (by kernel_rfl) (by kernel_rfl) rfl rfl rfl rfl (gives_move rfl rfl) (fun _ _ => trivial) ?_
      refine TH.take (listed' := #[true, true, true, true, false, false, false, false, false, false, false, false, false, false, false, false]) 3 rfl (by kernel_rfl) (by kernel_rfl) (by kernel_rfl) rfl rfl rfl rfl (gives_bin rfl rfl rfl (fun w => bin_sub_ (r := ((i - 1 : Nat) : Int)) (by simp only [IntKind.wrap_i64]; omega) w)) (fun _ _ => trivial) ?_
      have hi38 : i - 1 < ow.length := by omega
      obtain ⟨x38, hx38⟩ : ∃ x38, ow[i - 1]? = some x38 := ⟨_, List.getElem?_eq_getElem hi38⟩
      have hr39 := hT.ro _ (List.mem_of_getElem? hx38)
      refine TH.take (listed' := #[true, true, true, true, true, false, false, false, false, false, false, false, false, false, false, false]) 4 rfl (by kernel_rfl) (by kernel_rfl) (by kernel_rfl) rfl rfl rfl rfl (gives_at (v := .pointer (some ⟨g_Ao, 0 + (i - 1) * 1, none⟩)) rfl rfl rfl (fun w => at_el Try.underlying30 bltsz3 rfl _ _ (i - 1) (by omega) rfl w)) (fun _ _ => trivial) ?_
      refine TH.take (listed' := #[true, true, true, true, true, false, true, false, false, false, false, false, false, false, false, false]) 6 rfl (by kernel_rfl) (by kernel_rfl) (by kernel_rfl) rfl rfl rfl rfl (gives_move rfl rfl) (fun _ _ => trivial) ?_
      refine TH.two' (listed1 := #[true, true, true, true, true, true, true, false, false, false, false, false, false, false, false, false]) (listed2 := #[true, true, true, true, true, false, true, true, false, false, false, false, false, false, false, false]) 5 7 rfl rfl (by kernel_rfl) rfl rfl ?_ ?_
      · refine TL.val rfl rfl rfl (gives_load (v := .int .i64 x38) rfl rfl bltag3 (fun w1 hw => flat_row (ic_cel .i64) hw (q := 0) rfl hx38 0 _ rfl)) ?_
        refine TL.end_ ?_
        refine TX.held (fun _ _ => trivial) ?_
        refine TH.only' (listed' := #[true, true, true, true, true, true, true, true, false, false, false, false, false, false, false, false]) 7 rfl (by kernel_rfl) rfl ?_
        refine TL.pcallCod (k := 4) (α := {q9 : Nat // q9 ≤ 65535 ∧ (1 ≤ (4 : Int) → (q9 : Int) < 4)}) (fun q9 => .int .i64 ((q9.1 : Nat) : Int)) (fun q9 => []) rfl rfl rfl rfl rfl Try.func8 bltnm8 bltbd8 rfl (fun w1 hw hC1 => next_cod wn.heap.size w1 4 hC1) ?_
        rintro ⟨q41, hq411, hq412⟩
        dsimp only [List.cons_append, List.nil_append]
        refine TL.end_ ?_
        refine TX.held (fun _ _ => trivial) ?_
        refine TH.take (listed' := #[true, true, true, true, true, true, true, true, true, false, false, false, false, false, false, false]) 8 rfl (by kernel_rfl) (by kernel_rfl) (by kernel_rfl) rfl rfl rfl rfl (gives_bin rfl rfl rfl (fun w => bin_quoi_ (r := ((q41 / 3 : Nat) : Int)) (by omega) (by omega) (by omega) (by omega) w)) (fun _ _ => trivial) ?_
        refine TH.take (listed' := #[true, true, true, true, true, true, true, true, true, true, false, false, false, false, false, false]) 9 rfl (by kernel_rfl) (by kernel_rfl) (by kernel_rfl) rfl rfl rfl rfl (gives_bin rfl rfl rfl (fun w => bin_add_ (r := x38 + ((q41 / 3 : Nat) : Int)) (by simp only [IntKind.wrap_i64]; omega) w)) (fun _ _ => trivial) ?_
        refine TH.take (listed' := #[true, true, true, true, true, true, true, true, true, true, true, false, false, false, false, false]) 10 rfl (by kernel_rfl) (by kernel_rfl) (by kernel_rfl) rfl rfl rfl rfl (gives_bin rfl rfl rfl (fun w => bin_sub_ (r := x38 + ((q41 / 3 : Nat) : Int) - 1) (by simp only [IntKind.wrap_i64]; omega) w)) (fun _ _ => trivial) ?_
        refine TH.take (listed' := #[true, true, true, true, true, true, true, true, true, true, true, true, false, false, false, false]) 11 rfl (by kernel_rfl) (by kernel_rfl) (by kernel_rfl) rfl rfl rfl rfl (gives_bin rfl rfl rfl (fun w => bin_remk (m := x38 + ((q41 / 3 : Nat) : Int) - 1) (n := 3) (by omega) (by decide) w)) (fun _ _ => trivial) ?_
        refine TH.take (listed' := #[true, true, true, true, true, true, true, true, true, true, true, true, true, false, false, false]) 12 rfl (by kernel_rfl) (by kernel_rfl) (by kernel_rfl) rfl rfl rfl rfl (gives_bin rfl rfl rfl (fun w => bin_add_ (r := 1 + (x38 + ((q41 / 3 : Nat) : Int) - 1) % 3) (by simp only [IntKind.wrap_i64]; omega) w)) (fun _ _ => trivial) ?_
        refine TH.only' (listed' := #[true, true, true, true, true, true, true, true, true, true, true, true, true, true, false, false]) 13 rfl (by kernel_rfl) rfl ?_
        refine TL.prowS (e := 3) (size := 1) (cs := flat (ic .i64) [1 + (x38 + ((q41 / 3 : Nat) : Int) - 1) % 3]) rfl rfl rfl rfl rfl (fun w => bltbs30_1_5377 _ w) (by decide) rfl (fun g47 => ?_)
        refine TL.end_ ?_
        refine TX.held (fun _ _ => trivial) ?_
        refine TH.only' (listed' := #[true, true, true, true, true, true, true, true, true, true, true, true, true, true, true, false]) 14 rfl (by kernel_rfl) rfl ?_
        refine TL.appendT (k := 1) rfl rfl rfl rfl Try.underlying30 bltel30 rfl rfl rfl (fun w1 hw => pm_reads hw (k := 0) rfl) (flat_one (ic_cel .i64) _) (by show _ * 8 ≤ _; omega) ((ow ++ [1 + (x38 + ((q41 / 3 : Nat) : Int) - 1) % 3]).length) (by rw [List.length_append]; rfl) (flat (ic .i64) (ow ++ [1 + (x38 + ((q41 / 3 : Nat) : Int) - 1) % 3])) ((flat_app _ _).symm) (fun A48 c48 hA481 hA482 => ?_)
        refine TL.end_ ?_
        refine TX.held (fun _ _ => trivial) ?_
        refine TH.take (listed' := #[true, true, true, true, true, true, true, true, true, true, true, true, true, true, true, true]) 15 rfl (by kernel_rfl) (by kernel_rfl) (by kernel_rfl) rfl rfl rfl rfl (gives_assign rfl rfl) (fun _ _ => trivial) ?_
        refine TH.done (by kernel_rfl) ?_
        exact TX.joined (⟨((A48, c48), 1 + (x38 + ((q41 / 3 : Nat) : Int) - 1) % 3), by dsimp only; omega, hA481, hA482⟩) (⟨rfl, rfl, rfl, rfl, rfl, trivial⟩) (fun w1 hw => hw.pick [1, 2, 3, 4, 5] (by decide) rfl)
      · refine TL.pcallCod (k := 4) (α := {q9 : Nat // q9 ≤ 65535 ∧ (1 ≤ (4 : Int) → (q9 : Int) < 4)}) (fun q9 => .int .i64 ((q9.1 : Nat) : Int)) (fun q9 => []) rfl rfl rfl rfl rfl Try.func8 bltnm8 bltbd8 rfl (fun w1 hw hC1 => next_cod wn.heap.size w1 4 hC1) ?_
        rintro ⟨q41, hq411, hq412⟩
        dsimp only [List.cons_append, List.nil_append]
        refine TL.end_ ?_
        refine TX.held (fun _ _ => trivial) ?_
        refine TH.take (listed' := #[true, true, true, true, true, false, true, true, true, false, false, false, false, false, false, false]) 8 rfl (by kernel_rfl) (by kernel_rfl) (by kernel_rfl) rfl rfl rfl rfl (gives_bin rfl rfl rfl (fun w => bin_quoi_ (r := ((q41 / 3 : Nat) : Int)) (by omega) (by omega) (by omega) (by omega) w)) (fun _ _ => trivial) ?_
        refine TH.only' (listed' := #[true, true, true, true, true, true, true, true, true, false, false, false, false, false, false, false]) 5 rfl (by kernel_rfl) rfl ?_
        refine TL.val rfl rfl rfl (gives_load (v := .int .i64 x38) rfl rfl bltag3 (fun w1 hw => flat_row (ic_cel .i64) hw (q := 0) rfl hx38 0 _ rfl)) ?_
        refine TL.end_ ?_
        refine TX.held (fun _ _ => trivial) ?_
        refine TH.take (listed' := #[true, true, true, true, true, true, true, true, true, true, false, false, false, false, false, false]) 9 rfl (by kernel_rfl) (by kernel_rfl) (by kernel_rfl) rfl rfl rfl rfl (gives_bin rfl rfl rfl (fun w => bin_add_ (r := x38 + ((q41 / 3 : Nat) : Int)) (by simp only [IntKind.wrap_i64]; omega) w)) (fun _ _ => trivial) ?_
        refine TH.take (listed' := #[true, true, true, true, true, true, true, true, true, true, true, false, false, false, false, false]) 10 rfl (by kernel_rfl) (by kernel_rfl) (by kernel_rfl) rfl rfl rfl rfl (gives_bin rfl rfl rfl (fun w => bin_sub_ (r := x38 + ((q41 / 3 : Nat) : Int) - 1) (by simp only [IntKind.wrap_i64]; omega) w)) (fun _ _ => trivial) ?_
        refine TH.take (listed' := #[true, true, true, true, true, true, true, true, true, true, true, true, false, false, false, false]) 11 rfl (by kernel_rfl) (by kernel_rfl) (by kernel_rfl) rfl rfl rfl rfl (gives_bin rfl rfl rfl (fun w => bin_remk (m := x38 + ((q41 / 3 : Nat) : Int) - 1) (n := 3) (by omega) (by decide) w)) (fun _ _ => trivial) ?_
        refine TH.take (listed' := #[true, true, true, true, true, true, true, true, true, true, true, true, true, false, false, false]) 12 rfl (by kernel_rfl) (by kernel_rfl) (by kernel_rfl) rfl rfl rfl rfl (gives_bin rfl rfl rfl (fun w => bin_add_ (r := 1 + (x38 + ((q41 / 3 : Nat) : Int) - 1) % 3) (by simp only [IntKind.wrap_i64]; omega) w)) (fun _ _ => trivial) ?_
        refine TH.only' (listed' := #[true, true, true, true, true, true, true, true, true, true, true, true, true, true, false, false]) 13 rfl (by kernel_rfl) rfl ?_
        refine TL.prowS (e := 3) (size := 1) (cs := flat (ic .i64) [1 + (x38 + ((q41 / 3 : Nat) : Int) - 1) % 3]) rfl rfl rfl rfl rfl (fun w => bltbs30_1_5377 _ w) (by decide) rfl (fun g47 => ?_)
        refine TL.end_ ?_
        refine TX.held (fun _ _ => trivial) ?_
        refine TH.only' (listed' := #[true, true, true, true, true, true, true, true, true, true, true, true, true, true, true, false]) 14 rfl (by kernel_rfl) rfl ?_
        refine TL.appendT (k := 1) rfl rfl rfl rfl Try.underlying30 bltel30 rfl rfl rfl (fun w1 hw => pm_reads hw (k := 0) rfl) (flat_one (ic_cel .i64) _) (by show _ * 8 ≤ _; omega) ((ow ++ [1 + (x38 + ((q41 / 3 : Nat) : Int) - 1) % 3]).length) (by rw [List.length_append]; rfl) (flat (ic .i64) (ow ++ [1 + (x38 + ((q41 / 3 : Nat) : Int) - 1) % 3])) ((flat_app _ _).symm) (fun A48 c48 hA481 hA482 => ?_)
        refine TL.end_ ?_
        refine TX.held (fun _ _ => trivial) ?_
        refine TH.take (listed' := #[true, true, true, true, true, true, true, true, true, true, true, true, true, true, true, true]) 15 rfl (by kernel_rfl) (by kernel_rfl) (by kernel_rfl) rfl rfl rfl rfl (gives_assign rfl rfl) (fun _ _ => trivial) ?_
        refine TH.done (by kernel_rfl) ?_
        exact TX.joined (⟨((A48, c48), 1 + (x38 + ((q41 / 3 : Nat) : Int) - 1) % 3), by dsimp only; omega, hA481, hA482⟩) (⟨rfl, rfl, rfl, rfl, rfl, trivial⟩) (fun w1 hw => hw.pick [1, 2, 3, 4, 5] (by decide) rfl)
    · rintro ⟨⟨⟨Aw, cw⟩, nv⟩, hnv, hwc, hwm⟩
      dsimp only at hnv hwc hwm ⊢
      have hol : ow.length = i := hT.lo
      refine TC.seq_ ?_
      refine TC.region ?_
      refine TL.val rfl rfl rfl (gives_move rfl rfl) ?_
      refine TL.val rfl rfl rfl (gives_conv rfl rfl (fun w => conv_fit (k := .i64) Try.underlying29 Try.underlying3 (by simp only [IntKind.wrap_u32]; omega) w)) ?_
      refine TL.val rfl rfl rfl (gives_assign rfl rfl) ?_
      refine TL.end_ ?_
      refine TX.then_ ?_
      refine TC.seq_ ?_
      have hwl : (ow ++ [nv]).length = i + 1 := by rw [List.length_append, hol]; rfl
      refine TC.region ?_
      refine TL.val rfl rfl rfl (gives_move rfl rfl) ?_
      refine TL.val rfl rfl rfl (gives_move rfl rfl) ?_
      refine TL.fact (p := ∃ g, Aw = some ⟨g, 0, none⟩) (fun w1 hw => rowA hw (k := 0) rfl (by omega)) ?_
      rintro ⟨g_Aw, rfl⟩
      have hi53 : i < (ow ++ [nv]).length := by omega
      obtain ⟨x53, hx53⟩ : ∃ x53, (ow ++ [nv])[i]? = some x53 := ⟨_, List.getElem?_eq_getElem hi53⟩
      have he53 : x53 = nv := last_at hol hx53
      refine TL.val rfl rfl rfl (gives_at (v := .pointer (some ⟨g_Aw, 0 + i * 1, none⟩)) rfl rfl rfl (fun w => at_el Try.underlying30 bltsz3 rfl _ _ i (by omega) rfl w)) ?_
      refine TL.val rfl rfl rfl (gives_load (v := .int .i64 x53) rfl rfl bltag3 (fun w1 hw => flat_row (ic_cel .i64) hw (q := 0) rfl hx53 0 _ rfl)) ?_
      refine TL.val rfl rfl rfl (gives_assign rfl rfl) ?_
      refine TL.end_ ?_
      refine TX.then_ ?_
      refine TC.seq_ ?_
      refine TC.seq_ ?_
      refine TC.region ?_
      refine TL.val rfl rfl rfl (gives_move rfl rfl) ?_
      refine TL.pcallCod (k := 4) (α := Bool) (fun x => .bool x) (fun x => []) rfl rfl rfl rfl rfl Try.func12 bltnm12 bltbd12 rfl (fun w1 hw hC1 => dbool_cod wn.heap.size w1 hC1 2 (by decide)) ?_
      rintro bw
      dsimp only [List.cons_append, List.nil_append]
      refine TL.end_ ?_
      refine TX.then_ ?_
      refine TC.split (t := bw) rfl (fun c56 => ?_) (fun c56 => ?_)
      · refine TC.region ?_
        refine TL.val rfl rfl rfl (gives_move rfl rfl) ?_
        refine TL.val rfl rfl rfl (gives_move rfl rfl) ?_
        refine TL.val rfl rfl rfl (gives_bin rfl rfl rfl (fun w => bin_sub_ (r := ((i - 1 : Nat) : Int)) (by simp only [IntKind.wrap_i64]; omega) w)) ?_
        have hi60 : i - 1 < (ow ++ [nv]).length := by omega
        obtain ⟨x60, hx60⟩ : ∃ x60, (ow ++ [nv])[i - 1]? = some x60 := ⟨_, List.getElem?_eq_getElem hi60⟩
        refine TL.val rfl rfl rfl (gives_at (v := .pointer (some ⟨g_Aw, 0 + (i - 1) * 1, none⟩)) rfl rfl rfl (fun w => at_el Try.underlying30 bltsz3 rfl _ _ (i - 1) (by omega) rfl w)) ?_
        refine TL.val rfl rfl rfl (gives_load (v := .int .i64 x60) rfl rfl bltag3 (fun w1 hw => flat_row (ic_cel .i64) hw (q := 0) rfl hx60 0 _ rfl)) ?_
        refine TL.val rfl rfl rfl (gives_assign rfl rfl) ?_
        refine TL.end_ ?_
        refine TX.then_ ?_
        refine TC.seq_ ?_
        have hel : es.length = i - 1 := hT.le_
        refine TC.region ?_
        refine TL.val rfl rfl rfl (gives_field (v := .pointer (some ⟨g6, 0, none⟩)) rfl rfl (fun w => bltfld34_0 _ _ w)) ?_
        refine TL.val rfl rfl rfl (pm_load (k := 3) (i := 0) rfl rfl bltag32 rfl rfl) ?_
        refine TL.val rfl rfl rfl (gives_move rfl rfl) ?_
        refine TL.val rfl rfl rfl (gives_build (v := .agg #[.int .u32 ((i : Nat) : Int), .int .i64 32]) rfl rfl (fun w => bltbld43_27253 _ _ w)) ?_
        refine TL.val rfl rfl rfl (gives_move rfl rfl) ?_
        refine TL.val rfl rfl rfl (gives_build (v := .agg #[.int .u32 ((i : Nat) : Int), .int .i64 32, .int .i64 x60, .int .i64 0, .int .i64 9]) rfl rfl (fun w => bltbld45_98459 _ _ _ _ w)) ?_
        refine TL.prowS (e := 45) (size := 5) (cs := flat En.cells [(⟨((i : Nat) : Int), 32, x60, 0, 9⟩ : En)]) rfl rfl rfl rfl rfl (fun w => bltbs32_1_22095 _ _ _ _ _ w) (by decide) rfl (fun g68 => ?_)
        refine TL.appendT (k := 2) rfl rfl rfl rfl Try.underlying32 bltel32 rfl rfl rfl (fun w1 hw => pm_reads hw (k := 0) rfl) (flat_one en_cel _) (by show _ * 40 ≤ _; omega) ((es ++ [(⟨((i : Nat) : Int), 32, x60, 0, 9⟩ : En)]).length) (by rw [List.length_append]; rfl) (flat En.cells (es ++ [(⟨((i : Nat) : Int), 32, x60, 0, 9⟩ : En)])) ((flat_app _ _).symm) (fun A69 c69 hA691 hA692 => ?_)
        refine TL.val rfl rfl rfl (gives_field (v := .pointer (some ⟨g6, 0, none⟩)) rfl rfl (fun w => bltfld34_0 _ _ w)) ?_
        refine TL.pstore (k := 4) (vs := [.slice A69 ((es ++ [(⟨((i : Nat) : Int), 32, x60, 0, 9⟩ : En)]).length) c69]) rfl rfl rfl rfl rfl rfl rfl bltsz32 bltone_s (by show 1 ≤ 1; decide) (L' := [.row (.slice (some ⟨g68, 0, none⟩) 1 1) 45 5 1 (flat En.cells [(⟨((i : Nat) : Int), 32, x60, 0, 9⟩ : En)]), .row (.slice (some ⟨g_Aw, 0, none⟩) ((ow ++ [nv]).length) cw) 3 1 ((ow ++ [nv]).length) (flat (ic .i64) (ow ++ [nv])), .row (.slice A69 ((es ++ [(⟨((i : Nat) : Int), 32, x60, 0, 9⟩ : En)]).length) c69) 45 5 ((es ++ [(⟨((i : Nat) : Int), 32, x60, 0, 9⟩ : En)]).length) (flat En.cells (es ++ [(⟨((i : Nat) : Int), 32, x60, 0, 9⟩ : En)])), .row (.slice Ap ps.length cp) 29 1 ps.length (flat (ic .u32) ps), .blk g6 34 [.slice A69 ((es ++ [(⟨((i : Nat) : Int), 32, x60, 0, 9⟩ : En)]).length) c69], .abs wn.heap.size (fun w => Cod w wn.heap.size)]) rfl ?_
        refine TL.end_ ?_
        refine TX.then_ ?_
        refine TC.seq_ ?_
        refine TC.seq_ ?_
        refine TC.region ?_
        refine TL.val rfl rfl rfl (gives_move rfl rfl) ?_
        refine TL.pcallCod (k := 5) (α := Bool) (fun x => .bool x) (fun x => []) rfl rfl rfl rfl rfl Try.func12 bltnm12 bltbd12 rfl (fun w1 hw hC1 => dbool_cod wn.heap.size w1 hC1 4 (by decide)) ?_
        rintro bz
        dsimp only [List.cons_append, List.nil_append]
        refine TL.end_ ?_
        refine TX.then_ ?_
        refine TC.split (t := bz) rfl (fun c72 => ?_) (fun c72 => ?_)
        · refine TC.region ?_
          refine TL.val rfl rfl rfl (gives_assign rfl rfl) ?_
          refine TL.end_ ?_
          refine TX.then_ ?_
          have hpl : ps.length = i - 1 := hT.lp
          refine TC.region ?_
          refine TL.val rfl rfl rfl (gives_move rfl rfl) ?_
          refine TL.val rfl rfl rfl (gives_move rfl rfl) ?_
          refine TL.prowS (e := 29) (size := 1) (cs := flat (ic .u32) [0]) rfl rfl rfl rfl rfl (fun w => bltbs26_1_5377 _ w) (by decide) rfl (fun g75 => ?_)
          refine TL.appendT (k := 4) rfl rfl rfl rfl Try.underlying26 bltel26 rfl rfl rfl (fun w1 hw => pm_reads hw (k := 0) rfl) (flat_one (ic_cel .u32) _) (by show _ * 4 ≤ _; omega) ((ps ++ [0]).length) (by rw [List.length_append]; rfl) (flat (ic .u32) (ps ++ [0])) ((flat_app _ _).symm) (fun A76 c76 hA761 hA762 => ?_)
          refine TL.val rfl rfl rfl (gives_assign rfl rfl) ?_
          refine TL.end_ ?_
          refine TX.in_normal ?_
          refine TX.then_ ?_
          refine TC.region ?_
          refine TL.val rfl rfl rfl (gives_move rfl rfl) ?_
          refine TL.val rfl rfl rfl (gives_bin rfl rfl rfl (fun w => bin_add_ (r := ((i + 1 : Nat) : Int)) (by simp only [IntKind.wrap_i64]; omega) w)) ?_
          refine TL.val rfl rfl rfl (gives_assign rfl rfl) ?_
          refine TL.end_ ?_
          exact TX.round (⟨(i + 1, (((some ⟨g_Aw, 0, none⟩), cw), ow ++ [nv]), ((A69, c69), es ++ [(⟨((i : Nat) : Int), 32, x60, 0, 9⟩ : En)]), ((A76, c76), ps ++ [0])), hT.step (by omega) hnv (.inr (prev_at hol (by omega) hx60)) (.inr rfl), ⟨hwc, hwm⟩, ⟨hA691, hA692⟩, ⟨hA761, hA762⟩⟩) (by show 8 - (i + 1) < 8 - i; omega) ⟨rfl, rfl, rfl, rfl, rfl, trivial⟩ (fun w1 hw => hw.pick [2, 3, 4, 5, 6] (by decide) rfl)
        · refine TC.skip_ ?_
          refine TX.then_ ?_
          have hpl : ps.length = i - 1 := hT.lp
          refine TC.region ?_
          refine TL.val rfl rfl rfl (gives_move rfl rfl) ?_
          refine TL.val rfl rfl rfl (gives_move rfl rfl) ?_
          refine TL.prowS (e := 29) (size := 1) (cs := flat (ic .u32) [((i : Nat) : Int)]) rfl rfl rfl rfl rfl (fun w => bltbs26_1_5377 _ w) (by decide) rfl (fun g75 => ?_)
          refine TL.appendT (k := 4) rfl rfl rfl rfl Try.underlying26 bltel26 rfl rfl rfl (fun w1 hw => pm_reads hw (k := 0) rfl) (flat_one (ic_cel .u32) _) (by show _ * 4 ≤ _; omega) ((ps ++ [((i : Nat) : Int)]).length) (by rw [List.length_append]; rfl) (flat (ic .u32) (ps ++ [((i : Nat) : Int)])) ((flat_app _ _).symm) (fun A76 c76 hA761 hA762 => ?_)
          refine TL.val rfl rfl rfl (gives_assign rfl rfl) ?_
          refine TL.end_ ?_
          refine TX.in_normal ?_
          refine TX.then_ ?_
          refine TC.region ?_
          refine TL.val rfl rfl rfl (gives_move rfl rfl) ?_
          refine TL.val rfl rfl rfl (gives_bin rfl rfl rfl (fun w => bin_add_ (r := ((i + 1 : Nat) : Int)) (by simp only [IntKind.wrap_i64]; omega) w)) ?_
          refine TL.val rfl rfl rfl (gives_assign rfl rfl) ?_
          refine TL.end_ ?_
          exact TX.round (⟨(i + 1, (((some ⟨g_Aw, 0, none⟩), cw), ow ++ [nv]), ((A69, c69), es ++ [(⟨((i : Nat) : Int), 32, x60, 0, 9⟩ : En)]), ((A76, c76), ps ++ [((i : Nat) : Int)])), hT.step (by omega) hnv (.inr (prev_at hol (by omega) hx60)) (.inl rfl), ⟨hwc, hwm⟩, ⟨hA691, hA692⟩, ⟨hA761, hA762⟩⟩) (by show 8 - (i + 1) < 8 - i; omega) ⟨rfl, rfl, rfl, rfl, rfl, trivial⟩ (fun w1 hw => hw.pick [2, 3, 4, 5, 6] (by decide) rfl)
      · refine TC.skip_ ?_
        refine TX.then_ ?_
        refine TC.seq_ ?_
        have hel : es.length = i - 1 := hT.le_
        refine TC.region ?_
        refine TL.val rfl rfl rfl (gives_field (v := .pointer (some ⟨g6, 0, none⟩)) rfl rfl (fun w => bltfld34_0 _ _ w)) ?_
        refine TL.val rfl rfl rfl (pm_load (k := 3) (i := 0) rfl rfl bltag32 rfl rfl) ?_
        refine TL.val rfl rfl rfl (gives_move rfl rfl) ?_
        refine TL.val rfl rfl rfl (gives_build (v := .agg #[.int .u32 ((i : Nat) : Int), .int .i64 32]) rfl rfl (fun w => bltbld43_27253 _ _ w)) ?_
        refine TL.val rfl rfl rfl (gives_move rfl rfl) ?_
        refine TL.val rfl rfl rfl (gives_build (v := .agg #[.int .u32 ((i : Nat) : Int), .int .i64 32, .int .i64 x53, .int .i64 0, .int .i64 9]) rfl rfl (fun w => bltbld45_98459 _ _ _ _ w)) ?_
        refine TL.prowS (e := 45) (size := 5) (cs := flat En.cells [(⟨((i : Nat) : Int), 32, x53, 0, 9⟩ : En)]) rfl rfl rfl rfl rfl (fun w => bltbs32_1_22095 _ _ _ _ _ w) (by decide) rfl (fun g68 => ?_)
        refine TL.appendT (k := 2) rfl rfl rfl rfl Try.underlying32 bltel32 rfl rfl rfl (fun w1 hw => pm_reads hw (k := 0) rfl) (flat_one en_cel _) (by show _ * 40 ≤ _; omega) ((es ++ [(⟨((i : Nat) : Int), 32, x53, 0, 9⟩ : En)]).length) (by rw [List.length_append]; rfl) (flat En.cells (es ++ [(⟨((i : Nat) : Int), 32, x53, 0, 9⟩ : En)])) ((flat_app _ _).symm) (fun A69 c69 hA691 hA692 => ?_)
        refine TL.val rfl rfl rfl (gives_field (v := .pointer (some ⟨g6, 0, none⟩)) rfl rfl (fun w => bltfld34_0 _ _ w)) ?_
        refine TL.pstore (k := 4) (vs := [.slice A69 ((es ++ [(⟨((i : Nat) : Int), 32, x53, 0, 9⟩ : En)]).length) c69]) rfl rfl rfl rfl rfl rfl rfl bltsz32 bltone_s (by show 1 ≤ 1; decide) (L' := [.row (.slice (some ⟨g68, 0, none⟩) 1 1) 45 5 1 (flat En.cells [(⟨((i : Nat) : Int), 32, x53, 0, 9⟩ : En)]), .row (.slice (some ⟨g_Aw, 0, none⟩) ((ow ++ [nv]).length) cw) 3 1 ((ow ++ [nv]).length) (flat (ic .i64) (ow ++ [nv])), .row (.slice A69 ((es ++ [(⟨((i : Nat) : Int), 32, x53, 0, 9⟩ : En)]).length) c69) 45 5 ((es ++ [(⟨((i : Nat) : Int), 32, x53, 0, 9⟩ : En)]).length) (flat En.cells (es ++ [(⟨((i : Nat) : Int), 32, x53, 0, 9⟩ : En)])), .row (.slice Ap ps.length cp) 29 1 ps.length (flat (ic .u32) ps), .blk g6 34 [.slice A69 ((es ++ [(⟨((i : Nat) : Int), 32, x53, 0, 9⟩ : En)]).length) c69], .abs wn.heap.size (fun w => Cod w wn.heap.size)]) rfl ?_
        refine TL.end_ ?_
        refine TX.then_ ?_
        refine TC.seq_ ?_
        refine TC.seq_ ?_
        refine TC.region ?_
        refine TL.val rfl rfl rfl (gives_move rfl rfl) ?_
        refine TL.pcallCod (k := 5) (α := Bool) (fun x => .bool x) (fun x => []) rfl rfl rfl rfl rfl Try.func12 bltnm12 bltbd12 rfl (fun w1 hw hC1 => dbool_cod wn.heap.size w1 hC1 4 (by decide)) ?_
        rintro bz
        dsimp only [List.cons_append, List.nil_append]
        refine TL.end_ ?_
        refine TX.then_ ?_
        refine TC.split (t := bz) rfl (fun c72 => ?_) (fun c72 => ?_)
        · refine TC.region ?_
          refine TL.val rfl rfl rfl (gives_assign rfl rfl) ?_
          refine TL.end_ ?_
          refine TX.then_ ?_
          have hpl : ps.length = i - 1 := hT.lp
          refine TC.region ?_
          refine TL.val rfl rfl rfl (gives_move rfl rfl) ?_
          refine TL.val rfl rfl rfl (gives_move rfl rfl) ?_
          refine TL.prowS (e := 29) (size := 1) (cs := flat (ic .u32) [0]) rfl rfl rfl rfl rfl (fun w => bltbs26_1_5377 _ w) (by decide) rfl (fun g75 => ?_)
          refine TL.appendT (k := 4) rfl rfl rfl rfl Try.underlying26 bltel26 rfl rfl rfl (fun w1 hw => pm_reads hw (k := 0) rfl) (flat_one (ic_cel .u32) _) (by show _ * 4 ≤ _; omega) ((ps ++ [0]).length) (by rw [List.length_append]; rfl) (flat (ic .u32) (ps ++ [0])) ((flat_app _ _).symm) (fun A76 c76 hA761 hA762 => ?_)
          refine TL.val rfl rfl rfl (gives_assign rfl rfl) ?_
          refine TL.end_ ?_
          refine TX.in_normal ?_
          refine TX.then_ ?_
          refine TC.region ?_
          refine TL.val rfl rfl rfl (gives_move rfl rfl) ?_
          refine TL.val rfl rfl rfl (gives_bin rfl rfl rfl (fun w => bin_add_ (r := ((i + 1 : Nat) : Int)) (by simp only [IntKind.wrap_i64]; omega) w)) ?_
          refine TL.val rfl rfl rfl (gives_assign rfl rfl) ?_
          refine TL.end_ ?_
          exact TX.round (⟨(i + 1, (((some ⟨g_Aw, 0, none⟩), cw), ow ++ [nv]), ((A69, c69), es ++ [(⟨((i : Nat) : Int), 32, x53, 0, 9⟩ : En)]), ((A76, c76), ps ++ [0])), hT.step (by omega) hnv (.inl he53) (.inr rfl), ⟨hwc, hwm⟩, ⟨hA691, hA692⟩, ⟨hA761, hA762⟩⟩) (by show 8 - (i + 1) < 8 - i; omega) ⟨rfl, rfl, rfl, rfl, rfl, trivial⟩ (fun w1 hw => hw.pick [2, 3, 4, 5, 6] (by decide) rfl)
        · refine TC.skip_ ?_
          refine TX.then_ ?_
          have hpl : ps.length = i - 1 := hT.lp
          refine TC.region ?_
          refine TL.val rfl rfl rfl (gives_move rfl rfl) ?_
          refine TL.val rfl rfl rfl (gives_move rfl rfl) ?_
          refine TL.prowS (e := 29) (size := 1) (cs := flat (ic .u32) [((i : Nat) : Int)]) rfl rfl rfl rfl rfl (fun w => bltbs26_1_5377 _ w) (by decide) rfl (fun g75 => ?_)
          refine TL.appendT (k := 4) rfl rfl rfl rfl Try.underlying26 bltel26 rfl rfl rfl (fun w1 hw => pm_reads hw (k := 0) rfl) (flat_one (ic_cel .u32) _) (by show _ * 4 ≤ _; omega) ((ps ++ [((i : Nat) : Int)]).length) (by rw [List.length_append]; rfl) (flat (ic .u32) (ps ++ [((i : Nat) : Int)])) ((flat_app _ _).symm) (fun A76 c76 hA761 hA762 => ?_)
          refine TL.val rfl rfl rfl (gives_assign rfl rfl) ?_
          refine TL.end_ ?_
          refine TX.in_normal ?_
          refine TX.then_ ?_
          refine TC.region ?_
          refine TL.val rfl rfl rfl (gives_move rfl rfl) ?_
          refine TL.val rfl rfl rfl (gives_bin rfl rfl rfl (fun w => bin_add_ (r := ((i + 1 : Nat) : Int)) (by simp only [IntKind.wrap_i64]; omega) w)) ?_
          refine TL.val rfl rfl rfl (gives_assign rfl rfl) ?_
          refine TL.end_ ?_
          exact TX.round (⟨(i + 1, (((some ⟨g_Aw, 0, none⟩), cw), ow ++ [nv]), ((A69, c69), es ++ [(⟨((i : Nat) : Int), 32, x53, 0, 9⟩ : En)]), ((A76, c76), ps ++ [((i : Nat) : Int)])), hT.step (by omega) hnv (.inl he53) (.inl rfl), ⟨hwc, hwm⟩, ⟨hA691, hA692⟩, ⟨hA761, hA762⟩⟩) (by show 8 - (i + 1) < 8 - i; omega) ⟨rfl, rfl, rfl, rfl, rfl, trivial⟩ (fun w1 hw => hw.pick [2, 3, 4, 5, 6] (by decide) rfl)
  · have q31 := of_decide_eq_false h31
    refine TL.end_ ?_
    refine TX.then_ ?_
    refine TC.condF rfl ?_
    refine TC.exit_ ?_
    refine TX.then_exit ?_
    refine TX.then_exit ?_
    refine TX.in_same ?_
    refine TX.then_ ?_
    refine TC.seq_ ?_
    refine TC.seq_ ?_
    have hpl : ps.length = i - 1 := hT.lp
    have hwl : (winV es 3 ps).length ≤ ps.length := win_len _
    refine TC.region ?_
    refine TL.val rfl rfl rfl (gives_move rfl rfl) ?_
    refine TL.val rfl rfl rfl (pm_loadV (k := 3) (i := 0) (n := 1) (v := .agg #[.slice Ae es.length ce]) rfl rfl bltag34 bltsz34 rfl (by show 1 ≤ 1; decide) rfl) ?_
    refine TL.pcallPm (α := {p : Option Addr × Nat // (winV es 3 ps).length ≤ p.2 ∧ p.2 ≤ maxLen}) (fun x => .slice x.1.1 ((winV es 3 ps).length) x.1.2) (fun x => [.row (.slice x.1.1 ((winV es 3 ps).length) x.1.2) 39 4 ((winV es 3 ps).length) (flat Bd.cells (winV es 3 ps))]) rfl rfl rfl rfl rfl Try.func11 bltnm11 bltbd11 (fun w1 hw => windows_any Ap cp ps Ae ce es 3 w1 (pm_rd hw (k := 2) rfl) (by omega) (pm_rd hw (k := 1) rfl)) ?_
    rintro ⟨⟨R79, rc79⟩, hR791, hR792⟩
    dsimp only [List.cons_append, List.nil_append]
    refine TL.val rfl rfl rfl (gives_len rfl Try.underlying36 rfl) ?_
    refine TL.val rfl rfl rfl (gives_move rfl rfl) ?_
    refine TL.end_ ?_
    refine TX.then_ ?_
    refine TC.block ?_
    refine TC.loop_ (α := {i : Nat // i ≤ (winV es 3 ps).length}) (fun y => [(4, .slice Ao ow.length co), (79, .slice R79 ((winV es 3 ps).length) rc79), (80, .int .i64 ((winV es 3 ps).length : Nat)), (81, .int .i64 ((y.1 : Nat) : Int))]) (fun y => Pm wn [.row (.slice R79 ((winV es 3 ps).length) rc79) 39 4 ((winV es 3 ps).length) (flat Bd.cells (winV es 3 ps)), .row (.slice Ao ow.length co) 3 1 ow.length (flat (ic .i64) ow), .row (.slice Ae es.length ce) 45 5 es.length (flat En.cells es), .row (.slice Ap ps.length cp) 29 1 ps.length (flat (ic .u32) ps), .blk g6 34 [.slice Ae es.length ce], .abs wn.heap.size (fun w => Cod w wn.heap.size)]) (fun y => (winV es 3 ps).length - y.1) (⟨0, Nat.zero_le _⟩) ⟨rfl, rfl, rfl, rfl, trivial⟩ (fun w1 hw => hw) ?_
    rintro ⟨k, hk⟩
    try dsimp only
    refine TC.seq_ ?_
    refine TC.region ?_
    refine TL.vsplit rfl rfl rfl (gives_bin rfl rfl rfl (fun w => bin_lss w)) (fun h82 => ?_) (fun h82 => ?_)
    · have q82 := of_decide_eq_true h82
      refine TL.end_ ?_
      refine TX.then_ ?_
      refine TC.seq_ ?_
      refine TC.condT rfl ?_
      refine TC.skip_ ?_
      refine TX.then_ ?_
      refine TC.seq_ ?_
      refine TC.block ?_
      refine TC.seq_ ?_
      refine TC.region ?_
      refine TL.fact (p := ∃ g, R79 = some ⟨g, 0, none⟩) (fun w1 hw => rowA hw (k := 0) rfl (by omega)) ?_
      rintro ⟨g_R79, rfl⟩
      have hi83 : k < (winV es 3 ps).length := by omega
      obtain ⟨x83, hx83⟩ : ∃ x83, (winV es 3 ps)[k]? = some x83 := ⟨_, List.getElem?_eq_getElem hi83⟩
      obtain ⟨nr, fr, hnr, hfr, hfl, ⟨ma, ha1, ha2, ha3⟩, mb, hb1, hb2, hb3⟩ := truth_ok hT (List.mem_of_getElem? hx83)
      have hol : ow.length = i := hT.lo
      have hi8 := hT.le
      refine TL.val rfl rfl rfl (gives_at (v := .pointer (some ⟨g_R79, 0 + k * 4, none⟩)) rfl rfl rfl (fun w => at_el Try.underlying36 bltsz39 rfl _ _ k (by omega) rfl w)) ?_
      refine TL.val rfl rfl rfl (gives_loadR (off := 0 + k * 4) rfl rfl bltag39 bltsz39 (bd_cel.len x83) (fun w1 hw j9 u9 h9 => flat_row bd_cel hw (q := 0) rfl hx83 j9 u9 h9)) ?_
      refine TL.pnew rfl rfl rfl (exec_alloc (cs := [.int .u32 0, .int .u32 0, .int .i64 0, .int .i64 0]) rfl bltzv39 rfl) (fun g11 => ?_)
      refine TL.pstore (k := 0) (vs := x83.cells) rfl rfl rfl rfl rfl rfl rfl bltsz39 (bd_cel.one _) (by show 4 ≤ 4; decide) (L' := [.blk g11 39 x83.cells, .row (.slice (some ⟨g_R79, 0, none⟩) ((winV es 3 ps).length) rc79) 39 4 ((winV es 3 ps).length) (flat Bd.cells (winV es 3 ps)), .row (.slice Ao ow.length co) 3 1 ow.length (flat (ic .i64) ow), .row (.slice Ae es.length ce) 45 5 es.length (flat En.cells es), .row (.slice Ap ps.length cp) 29 1 ps.length (flat (ic .u32) ps), .blk g6 34 [.slice Ae es.length ce], .abs wn.heap.size (fun w => Cod w wn.heap.size)]) rfl ?_
      refine TL.end_ ?_
      refine TX.then_ ?_
      refine TC.seq_ ?_
      refine TC.quietQ (by kernel_rfl) (by kernel_rfl) (fun w hw => hw.drawn _) ?_
      refine TQ.val rfl rfl rfl (gives_field (v := .pointer (some ⟨g11, 0, none⟩)) rfl rfl (fun w => bltfld39_0 _ _ w)) ?_
      refine TQ.val rfl rfl rfl (pm_load (k := 0) (i := 0) rfl rfl bltag29 rfl rfl) ?_
      refine TQ.val rfl rfl rfl (gives_conv rfl rfl (fun w => conv_fit (k := .u32) Try.underlying3 Try.underlying29 (by simp only [IntKind.wrap_i64]; omega) w)) ?_
      refine TQ.val rfl rfl rfl (gives_field (v := .pointer (some ⟨g11, 1, none⟩)) rfl rfl (fun w => bltfld39_1 _ _ w)) ?_
      refine TQ.val rfl rfl rfl (pm_load (k := 0) (i := 1) rfl rfl bltag29 rfl rfl) ?_
      refine TQ.val rfl rfl rfl (gives_conv rfl rfl (fun w => conv_fit (k := .u32) Try.underlying3 Try.underlying29 (by simp only [IntKind.wrap_i64]; omega) w)) ?_
      refine TQ.val rfl rfl rfl (gives_assign rfl rfl) ?_
      refine TQ.val rfl rfl rfl (gives_assign rfl rfl) ?_
      refine TQ.fin ?_
      refine TX.then_ ?_
      refine TC.seq_ ?_
      refine TC.region ?_
      refine TL.val rfl rfl rfl (gives_assign rfl rfl) ?_
      refine TL.val rfl rfl rfl (gives_assign rfl rfl) ?_
      refine TL.end_ ?_
      refine TX.then_ ?_
      refine TC.seq_ ?_
      refine TC.seq_ ?_
      refine TC.region ?_
      refine TL.val rfl rfl rfl (gives_move rfl rfl) ?_
      refine TL.val rfl rfl rfl (gives_assign rfl rfl) ?_
      refine TL.end_ ?_
      refine TX.then_ ?_
      refine TC.block ?_
      refine TC.loop_ (α := {y : Nat × Bool × Bool // (nr ≤ y.1 ∧ y.1 ≤ fr + 1) ∧ (y.2.1 = true ↔ ∃ m, nr ≤ m ∧ m < y.1 ∧ ow[m]? = some x83.frm) ∧ (y.2.2 = true ↔ ∃ m, nr ≤ m ∧ m < y.1 ∧ ow[m]? = some x83.to_)}) (fun y => [(4, .slice Ao ow.length co), (11, .pointer (some ⟨g11, 0, none⟩)), (12, .int .i64 x83.near), (13, .int .i64 x83.far), (79, .slice (some ⟨g_R79, 0, none⟩) ((winV es 3 ps).length) rc79), (80, .int .i64 ((winV es 3 ps).length : Nat)), (81, .int .i64 ((k : Nat) : Int)), (16, .int .i64 ((y.1.1 : Nat) : Int)), (14, .bool y.1.2.1), (15, .bool y.1.2.2)]) (fun y => Pm wn [.blk g11 39 x83.cells, .row (.slice (some ⟨g_R79, 0, none⟩) ((winV es 3 ps).length) rc79) 39 4 ((winV es 3 ps).length) (flat Bd.cells (winV es 3 ps)), .row (.slice Ao ow.length co) 3 1 ow.length (flat (ic .i64) ow), .row (.slice Ae es.length ce) 45 5 es.length (flat En.cells es), .row (.slice Ap ps.length cp) 29 1 ps.length (flat (ic .u32) ps), .blk g6 34 [.slice Ae es.length ce], .abs wn.heap.size (fun w => Cod w wn.heap.size)]) (fun y => fr + 1 - y.1.1) (⟨(nr, false, false), ⟨Nat.le_refl _, by dsimp only; omega⟩, seen_none, seen_none⟩) ⟨rfl, rfl, rfl, rfl, rfl, rfl, rfl, (by show some (Value.int .i64 x83.near) = some (Value.int .i64 ((nr : Nat) : Int)); rw [hnr]), rfl, rfl, trivial⟩ (fun w1 hw => hw) ?_
      rintro ⟨⟨c, fa, fb⟩, ⟨hcn, hcf⟩, hfa, hfb⟩
      dsimp only at hcn hcf hfa hfb ⊢
      refine TC.seq_ ?_
      refine TC.seq_ ?_
      refine TC.region ?_
      refine TL.val rfl rfl rfl (gives_move rfl rfl) ?_
      refine TL.val rfl rfl rfl (gives_move rfl rfl) ?_
      refine TL.vsplit rfl rfl rfl (gives_bin rfl rfl rfl (fun w => bin_leq w)) (fun h94 => ?_) (fun h94 => ?_)
      · have q94 := of_decide_eq_true h94
        refine TL.val rfl rfl rfl (gives_move rfl rfl) ?_
        refine TL.on rfl rfl rfl ?_
        refine TL.val rfl rfl rfl (gives_move rfl rfl) ?_
        refine TL.on rfl rfl rfl ?_
        refine TL.val rfl rfl rfl (gives_move rfl rfl) ?_
        refine TL.on rfl rfl rfl ?_
        refine TL.val rfl rfl rfl (gives_len rfl Try.underlying30 rfl) ?_
        refine TL.on rfl rfl rfl ?_
        refine TL.vsplit rfl rfl rfl (gives_bin rfl rfl rfl (fun w => bin_lss w)) (fun h99 => ?_) (fun h99 => ?_)
        · have q99 := of_decide_eq_true h99
          refine TL.val rfl rfl rfl (gives_pick rfl rfl rfl) ?_
          refine TL.end_ ?_
          refine TX.then_ ?_
          refine TC.condT rfl ?_
          refine TC.skip_ ?_
          refine TX.then_ ?_
          refine TC.seq_ ?_
          refine TC.block ?_
          cases fa with
          | true =>
            cases fb with
            | true =>
              refine TC.fact (p := ∃ g, Ao = some ⟨g, 0, none⟩) (fun w1 hw => rowA hw (k := 2) rfl (by omega)) ?_
              rintro ⟨g_Ao, rfl⟩
              refine TC.quietQ (by kernel_rfl) (by kernel_rfl) (fun w hw => hw.drawn _) ?_
              refine TQ.val rfl rfl rfl (gives_move rfl rfl) ?_
              refine TQ.val rfl rfl rfl (gives_move rfl rfl) ?_
              refine TQ.off rfl rfl rfl rfl rfl rfl ?_
              refine TQ.off rfl rfl rfl rfl rfl rfl ?_
              refine TQ.off rfl rfl rfl rfl rfl rfl ?_
              refine TQ.off rfl rfl rfl rfl rfl rfl ?_
              refine TQ.off rfl rfl rfl rfl rfl rfl ?_
              refine TQ.off rfl rfl rfl rfl rfl rfl ?_
              refine TQ.off rfl rfl rfl rfl rfl rfl ?_
              refine TQ.val rfl rfl rfl (gives_pick rfl rfl rfl) ?_
              refine TQ.val rfl rfl rfl (gives_move rfl rfl) ?_
              refine TQ.val rfl rfl rfl (gives_move rfl rfl) ?_
              refine TQ.off rfl rfl rfl rfl rfl rfl ?_
              refine TQ.off rfl rfl rfl rfl rfl rfl ?_
              refine TQ.off rfl rfl rfl rfl rfl rfl ?_
              refine TQ.off rfl rfl rfl rfl rfl rfl ?_
              refine TQ.off rfl rfl rfl rfl rfl rfl ?_
              refine TQ.off rfl rfl rfl rfl rfl rfl ?_
              refine TQ.off rfl rfl rfl rfl rfl rfl ?_
              refine TQ.val rfl rfl rfl (gives_pick rfl rfl rfl) ?_
              refine TQ.val rfl rfl rfl (gives_assign rfl rfl) ?_
              refine TQ.val rfl rfl rfl (gives_assign rfl rfl) ?_
              refine TQ.fin ?_
              refine TX.in_normal ?_
              refine TX.then_ ?_
              refine TC.region ?_
              refine TL.val rfl rfl rfl (gives_move rfl rfl) ?_
              refine TL.val rfl rfl rfl (gives_bin rfl rfl rfl (fun w => bin_add_ (r := ((c + 1 : Nat) : Int)) (by simp only [IntKind.wrap_i64]; omega) w)) ?_
              refine TL.val rfl rfl rfl (gives_assign rfl rfl) ?_
              refine TL.end_ ?_
              exact TX.round (⟨(c + 1, true, true), by dsimp only; omega, seen_old hfa, seen_old hfb⟩) (by show fr + 1 - (c + 1) < fr + 1 - c; omega) ⟨rfl, rfl, rfl, rfl, rfl, rfl, rfl, rfl, rfl, rfl, trivial⟩ (fun w1 hw => hw)
            | false =>
              refine TC.fact (p := ∃ g, Ao = some ⟨g, 0, none⟩) (fun w1 hw => rowA hw (k := 2) rfl (by omega)) ?_
              rintro ⟨g_Ao, rfl⟩
              refine TC.quietQ (by kernel_rfl) (by kernel_rfl) (fun w hw => hw.drawn _) ?_
              refine TQ.val rfl rfl rfl (gives_move rfl rfl) ?_
              refine TQ.val rfl rfl rfl (gives_move rfl rfl) ?_
              refine TQ.off rfl rfl rfl rfl rfl rfl ?_
              refine TQ.off rfl rfl rfl rfl rfl rfl ?_
              refine TQ.off rfl rfl rfl rfl rfl rfl ?_
              refine TQ.off rfl rfl rfl rfl rfl rfl ?_
              refine TQ.off rfl rfl rfl rfl rfl rfl ?_
              refine TQ.off rfl rfl rfl rfl rfl rfl ?_
              refine TQ.off rfl rfl rfl rfl rfl rfl ?_
              refine TQ.val rfl rfl rfl (gives_pick rfl rfl rfl) ?_
              refine TQ.val rfl rfl rfl (gives_move rfl rfl) ?_
              refine TQ.val rfl rfl rfl (gives_move rfl rfl) ?_
              refine TQ.on rfl rfl rfl ?_
              refine TQ.val rfl rfl rfl (gives_move rfl rfl) ?_
              refine TQ.on rfl rfl rfl ?_
              refine TQ.val rfl rfl rfl (gives_move rfl rfl) ?_
              refine TQ.on rfl rfl rfl ?_
              have hi117 : c < ow.length := by omega
              obtain ⟨x117, hx117⟩ : ∃ x117, ow[c]? = some x117 := ⟨_, List.getElem?_eq_getElem hi117⟩
              refine TQ.val rfl rfl rfl (gives_at (v := .pointer (some ⟨g_Ao, 0 + c * 1, none⟩)) rfl rfl rfl (fun w => at_el Try.underlying30 bltsz3 rfl _ _ c (by omega) rfl w)) ?_
              refine TQ.on rfl rfl rfl ?_
              refine TQ.val rfl rfl rfl (gives_load (v := .int .i64 x117) rfl rfl bltag3 (fun w1 hw => flat_row (ic_cel .i64) hw (q := 2) rfl hx117 0 _ rfl)) ?_
              refine TQ.on rfl rfl rfl ?_
              refine TQ.val rfl rfl rfl (gives_field (v := .pointer (some ⟨g11, 3, none⟩)) rfl rfl (fun w => bltfld39_3 _ _ w)) ?_
              refine TQ.on rfl rfl rfl ?_
              refine TQ.val rfl rfl rfl (pm_load (k := 0) (i := 3) rfl rfl bltag3 rfl rfl) ?_
              refine TQ.on rfl rfl rfl ?_
              refine TQ.vsplit rfl rfl rfl (gives_bin rfl rfl rfl (fun w => bin_eql w)) (fun h121 => ?_) (fun h121 => ?_)
              · have q121 := of_decide_eq_true h121
                refine TQ.val rfl rfl rfl (gives_pick rfl rfl rfl) ?_
                refine TQ.val rfl rfl rfl (gives_assign rfl rfl) ?_
                refine TQ.val rfl rfl rfl (gives_assign rfl rfl) ?_
                refine TQ.fin ?_
                refine TX.in_normal ?_
                refine TX.then_ ?_
                refine TC.region ?_
                refine TL.val rfl rfl rfl (gives_move rfl rfl) ?_
                refine TL.val rfl rfl rfl (gives_bin rfl rfl rfl (fun w => bin_add_ (r := ((c + 1 : Nat) : Int)) (by simp only [IntKind.wrap_i64]; omega) w)) ?_
                refine TL.val rfl rfl rfl (gives_assign rfl rfl) ?_
                refine TL.end_ ?_
                exact TX.round (⟨(c + 1, true, true), by dsimp only; omega, seen_old hfa, seen_now hcn hx117 q121⟩) (by show fr + 1 - (c + 1) < fr + 1 - c; omega) ⟨rfl, rfl, rfl, rfl, rfl, rfl, rfl, rfl, rfl, rfl, trivial⟩ (fun w1 hw => hw)
              · have q121 := of_decide_eq_false h121
                refine TQ.val rfl rfl rfl (gives_pick rfl rfl rfl) ?_
                refine TQ.val rfl rfl rfl (gives_assign rfl rfl) ?_
                refine TQ.val rfl rfl rfl (gives_assign rfl rfl) ?_
                refine TQ.fin ?_
                refine TX.in_normal ?_
                refine TX.then_ ?_
                refine TC.region ?_
                refine TL.val rfl rfl rfl (gives_move rfl rfl) ?_
                refine TL.val rfl rfl rfl (gives_bin rfl rfl rfl (fun w => bin_add_ (r := ((c + 1 : Nat) : Int)) (by simp only [IntKind.wrap_i64]; omega) w)) ?_
                refine TL.val rfl rfl rfl (gives_assign rfl rfl) ?_
                refine TL.end_ ?_
                exact TX.round (⟨(c + 1, true, false), by dsimp only; omega, seen_old hfa, seen_not hfb hx117 q121⟩) (by show fr + 1 - (c + 1) < fr + 1 - c; omega) ⟨rfl, rfl, rfl, rfl, rfl, rfl, rfl, rfl, rfl, rfl, trivial⟩ (fun w1 hw => hw)
          | false =>
            cases fb with
            | true =>
              refine TC.fact (p := ∃ g, Ao = some ⟨g, 0, none⟩) (fun w1 hw => rowA hw (k := 2) rfl (by omega)) ?_
              rintro ⟨g_Ao, rfl⟩
              refine TC.quietQ (by kernel_rfl) (by kernel_rfl) (fun w hw => hw.drawn _) ?_
              refine TQ.val rfl rfl rfl (gives_move rfl rfl) ?_
              refine TQ.val rfl rfl rfl (gives_move rfl rfl) ?_
              refine TQ.on rfl rfl rfl ?_
              refine TQ.val rfl rfl rfl (gives_move rfl rfl) ?_
              refine TQ.on rfl rfl rfl ?_
              refine TQ.val rfl rfl rfl (gives_move rfl rfl) ?_
              refine TQ.on rfl rfl rfl ?_
              have hi107 : c < ow.length := by omega
              obtain ⟨x107, hx107⟩ : ∃ x107, ow[c]? = some x107 := ⟨_, List.getElem?_eq_getElem hi107⟩
              refine TQ.val rfl rfl rfl (gives_at (v := .pointer (some ⟨g_Ao, 0 + c * 1, none⟩)) rfl rfl rfl (fun w => at_el Try.underlying30 bltsz3 rfl _ _ c (by omega) rfl w)) ?_
              refine TQ.on rfl rfl rfl ?_
              refine TQ.val rfl rfl rfl (gives_load (v := .int .i64 x107) rfl rfl bltag3 (fun w1 hw => flat_row (ic_cel .i64) hw (q := 2) rfl hx107 0 _ rfl)) ?_
              refine TQ.on rfl rfl rfl ?_
              refine TQ.val rfl rfl rfl (gives_field (v := .pointer (some ⟨g11, 2, none⟩)) rfl rfl (fun w => bltfld39_2 _ _ w)) ?_
              refine TQ.on rfl rfl rfl ?_
              refine TQ.val rfl rfl rfl (pm_load (k := 0) (i := 2) rfl rfl bltag3 rfl rfl) ?_
              refine TQ.on rfl rfl rfl ?_
              refine TQ.vsplit rfl rfl rfl (gives_bin rfl rfl rfl (fun w => bin_eql w)) (fun h111 => ?_) (fun h111 => ?_)
              · have q111 := of_decide_eq_true h111
                refine TQ.val rfl rfl rfl (gives_pick rfl rfl rfl) ?_
                refine TQ.val rfl rfl rfl (gives_move rfl rfl) ?_
                refine TQ.val rfl rfl rfl (gives_move rfl rfl) ?_
                refine TQ.off rfl rfl rfl rfl rfl rfl ?_
                refine TQ.off rfl rfl rfl rfl rfl rfl ?_
                refine TQ.off rfl rfl rfl rfl rfl rfl ?_
                refine TQ.off rfl rfl rfl rfl rfl rfl ?_
                refine TQ.off rfl rfl rfl rfl rfl rfl ?_
                refine TQ.off rfl rfl rfl rfl rfl rfl ?_
                refine TQ.off rfl rfl rfl rfl rfl rfl ?_
                refine TQ.val rfl rfl rfl (gives_pick rfl rfl rfl) ?_
                refine TQ.val rfl rfl rfl (gives_assign rfl rfl) ?_
                refine TQ.val rfl rfl rfl (gives_assign rfl rfl) ?_
                refine TQ.fin ?_
                refine TX.in_normal ?_
                refine TX.then_ ?_
                refine TC.region ?_
                refine TL.val rfl rfl rfl (gives_move rfl rfl) ?_
                refine TL.val rfl rfl rfl (gives_bin rfl rfl rfl (fun w => bin_add_ (r := ((c + 1 : Nat) : Int)) (by simp only [IntKind.wrap_i64]; omega) w)) ?_
                refine TL.val rfl rfl rfl (gives_assign rfl rfl) ?_
                refine TL.end_ ?_
                exact TX.round (⟨(c + 1, true, true), by dsimp only; omega, seen_now hcn hx107 q111, seen_old hfb⟩) (by show fr + 1 - (c + 1) < fr + 1 - c; omega) ⟨rfl, rfl, rfl, rfl, rfl, rfl, rfl, rfl, rfl, rfl, trivial⟩ (fun w1 hw => hw)
              · have q111 := of_decide_eq_false h111
                refine TQ.val rfl rfl rfl (gives_pick rfl rfl rfl) ?_
                refine TQ.val rfl rfl rfl (gives_move rfl rfl) ?_
                refine TQ.val rfl rfl rfl (gives_move rfl rfl) ?_
                refine TQ.off rfl rfl rfl rfl rfl rfl ?_
                refine TQ.off rfl rfl rfl rfl rfl rfl ?_
                refine TQ.off rfl rfl rfl rfl rfl rfl ?_
                refine TQ.off rfl rfl rfl rfl rfl rfl ?_
                refine TQ.off rfl rfl rfl rfl rfl rfl ?_
                refine TQ.off rfl rfl rfl rfl rfl rfl ?_
                refine TQ.off rfl rfl rfl rfl rfl rfl ?_
                refine TQ.val rfl rfl rfl (gives_pick rfl rfl rfl) ?_
                refine TQ.val rfl rfl rfl (gives_assign rfl rfl) ?_
                refine TQ.val rfl rfl rfl (gives_assign rfl rfl) ?_
                refine TQ.fin ?_
                refine TX.in_normal ?_
                refine TX.then_ ?_
                refine TC.region ?_
                refine TL.val rfl rfl rfl (gives_move rfl rfl) ?_
                refine TL.val rfl rfl rfl (gives_bin rfl rfl rfl (fun w => bin_add_ (r := ((c + 1 : Nat) : Int)) (by simp only [IntKind.wrap_i64]; omega) w)) ?_
                refine TL.val rfl rfl rfl (gives_assign rfl rfl) ?_
                refine TL.end_ ?_
                exact TX.round (⟨(c + 1, false, true), by dsimp only; omega, seen_not hfa hx107 q111, seen_old hfb⟩) (by show fr + 1 - (c + 1) < fr + 1 - c; omega) ⟨rfl, rfl, rfl, rfl, rfl, rfl, rfl, rfl, rfl, rfl, trivial⟩ (fun w1 hw => hw)
            | false =>
              refine TC.fact (p := ∃ g, Ao = some ⟨g, 0, none⟩) (fun w1 hw => rowA hw (k := 2) rfl (by omega)) ?_
              rintro ⟨g_Ao, rfl⟩
              refine TC.quietQ (by kernel_rfl) (by kernel_rfl) (fun w hw => hw.drawn _) ?_
              refine TQ.val rfl rfl rfl (gives_move rfl rfl) ?_
              refine TQ.val rfl rfl rfl (gives_move rfl rfl) ?_
              refine TQ.on rfl rfl rfl ?_
              refine TQ.val rfl rfl rfl (gives_move rfl rfl) ?_
              refine TQ.on rfl rfl rfl ?_
              refine TQ.val rfl rfl rfl (gives_move rfl rfl) ?_
              refine TQ.on rfl rfl rfl ?_
              have hi107 : c < ow.length := by omega
              obtain ⟨x107, hx107⟩ : ∃ x107, ow[c]? = some x107 := ⟨_, List.getElem?_eq_getElem hi107⟩
              refine TQ.val rfl rfl rfl (gives_at (v := .pointer (some ⟨g_Ao, 0 + c * 1, none⟩)) rfl rfl rfl (fun w => at_el Try.underlying30 bltsz3 rfl _ _ c (by omega) rfl w)) ?_
              refine TQ.on rfl rfl rfl ?_
              refine TQ.val rfl rfl rfl (gives_load (v := .int .i64 x107) rfl rfl bltag3 (fun w1 hw => flat_row (ic_cel .i64) hw (q := 2) rfl hx107 0 _ rfl)) ?_
              refine TQ.on rfl rfl rfl ?_
              refine TQ.val rfl rfl rfl (gives_field (v := .pointer (some ⟨g11, 2, none⟩)) rfl rfl (fun w => bltfld39_2 _ _ w)) ?_
              refine TQ.on rfl rfl rfl ?_
              refine TQ.val rfl rfl rfl (pm_load (k := 0) (i := 2) rfl rfl bltag3 rfl rfl) ?_
              refine TQ.on rfl rfl rfl ?_
              refine TQ.vsplit rfl rfl rfl (gives_bin rfl rfl rfl (fun w => bin_eql w)) (fun h111 => ?_) (fun h111 => ?_)
              · have q111 := of_decide_eq_true h111
                refine TQ.val rfl rfl rfl (gives_pick rfl rfl rfl) ?_
                refine TQ.val rfl rfl rfl (gives_move rfl rfl) ?_
                refine TQ.val rfl rfl rfl (gives_move rfl rfl) ?_
                refine TQ.on rfl rfl rfl ?_
                refine TQ.val rfl rfl rfl (gives_move rfl rfl) ?_
                refine TQ.on rfl rfl rfl ?_
                refine TQ.val rfl rfl rfl (gives_move rfl rfl) ?_
                refine TQ.on rfl rfl rfl ?_
                refine TQ.val rfl rfl rfl (gives_at (v := .pointer (some ⟨g_Ao, 0 + c * 1, none⟩)) rfl rfl rfl (fun w => at_el Try.underlying30 bltsz3 rfl _ _ c (by omega) rfl w)) ?_
                refine TQ.on rfl rfl rfl ?_
                refine TQ.val rfl rfl rfl (gives_load (v := .int .i64 x107) rfl rfl bltag3 (fun w1 hw => flat_row (ic_cel .i64) hw (q := 2) rfl hx107 0 _ rfl)) ?_
                refine TQ.on rfl rfl rfl ?_
                refine TQ.val rfl rfl rfl (gives_field (v := .pointer (some ⟨g11, 3, none⟩)) rfl rfl (fun w => bltfld39_3 _ _ w)) ?_
                refine TQ.on rfl rfl rfl ?_
                refine TQ.val rfl rfl rfl (pm_load (k := 0) (i := 3) rfl rfl bltag3 rfl rfl) ?_
                refine TQ.on rfl rfl rfl ?_
                refine TQ.vsplit rfl rfl rfl (gives_bin rfl rfl rfl (fun w => bin_eql w)) (fun h121 => ?_) (fun h121 => ?_)
                · have q121 := of_decide_eq_true h121
                  refine TQ.val rfl rfl rfl (gives_pick rfl rfl rfl) ?_
                  refine TQ.val rfl rfl rfl (gives_assign rfl rfl) ?_
                  refine TQ.val rfl rfl rfl (gives_assign rfl rfl) ?_
                  refine TQ.fin ?_
                  refine TX.in_normal ?_
                  refine TX.then_ ?_
                  refine TC.region ?_
                  refine TL.val rfl rfl rfl (gives_move rfl rfl) ?_
                  refine TL.val rfl rfl rfl (gives_bin rfl rfl rfl (fun w => bin_add_ (r := ((c + 1 : Nat) : Int)) (by simp only [IntKind.wrap_i64]; omega) w)) ?_
                  refine TL.val rfl rfl rfl (gives_assign rfl rfl) ?_
                  refine TL.end_ ?_
                  exact TX.round (⟨(c + 1, true, true), by dsimp only; omega, seen_now hcn hx107 q111, seen_now hcn hx107 q121⟩) (by show fr + 1 - (c + 1) < fr + 1 - c; omega) ⟨rfl, rfl, rfl, rfl, rfl, rfl, rfl, rfl, rfl, rfl, trivial⟩ (fun w1 hw => hw)
                · have q121 := of_decide_eq_false h121
                  refine TQ.val rfl rfl rfl (gives_pick rfl rfl rfl) ?_
                  refine TQ.val rfl rfl rfl (gives_assign rfl rfl) ?_
                  refine TQ.val rfl rfl rfl (gives_assign rfl rfl) ?_
                  refine TQ.fin ?_
                  refine TX.in_normal ?_
                  refine TX.then_ ?_
                  refine TC.region ?_
                  refine TL.val rfl rfl rfl (gives_move rfl rfl) ?_
                  refine TL.val rfl rfl rfl (gives_bin rfl rfl rfl (fun w => bin_add_ (r := ((c + 1 : Nat) : Int)) (by simp only [IntKind.wrap_i64]; omega) w)) ?_
                  refine TL.val rfl rfl rfl (gives_assign rfl rfl) ?_
                  refine TL.end_ ?_
                  exact TX.round (⟨(c + 1, true, false), by dsimp only; omega, seen_now hcn hx107 q111, seen_not hfb hx107 q121⟩) (by show fr + 1 - (c + 1) < fr + 1 - c; omega) ⟨rfl, rfl, rfl, rfl, rfl, rfl, rfl, rfl, rfl, rfl, trivial⟩ (fun w1 hw => hw)
              · have q111 := of_decide_eq_false h111
                refine TQ.val rfl rfl rfl (gives_pick rfl rfl rfl) ?_
                refine TQ.val rfl rfl rfl (gives_move rfl rfl) ?_
                refine TQ.val rfl rfl rfl (gives_move rfl rfl) ?_
                refine TQ.on rfl rfl rfl ?_
                refine TQ.val rfl rfl rfl (gives_move rfl rfl) ?_
                refine TQ.on rfl rfl rfl ?_
                refine TQ.val rfl rfl rfl (gives_move rfl rfl) ?_
                refine TQ.on rfl rfl rfl ?_
                refine TQ.val rfl rfl rfl (gives_at (v := .pointer (some ⟨g_Ao, 0 + c * 1, none⟩)) rfl rfl rfl (fun w => at_el Try.underlying30 bltsz3 rfl _ _ c (by omega) rfl w)) ?_
                refine TQ.on rfl rfl rfl ?_
                refine TQ.val rfl rfl rfl (gives_load (v := .int .i64 x107) rfl rfl bltag3 (fun w1 hw => flat_row (ic_cel .i64) hw (q := 2) rfl hx107 0 _ rfl)) ?_
                refine TQ.on rfl rfl rfl ?_
                refine TQ.val rfl rfl rfl (gives_field (v := .pointer (some ⟨g11, 3, none⟩)) rfl rfl (fun w => bltfld39_3 _ _ w)) ?_
                refine TQ.on rfl rfl rfl ?_
                refine TQ.val rfl rfl rfl (pm_load (k := 0) (i := 3) rfl rfl bltag3 rfl rfl) ?_
                refine TQ.on rfl rfl rfl ?_
                refine TQ.vsplit rfl rfl rfl (gives_bin rfl rfl rfl (fun w => bin_eql w)) (fun h121 => ?_) (fun h121 => ?_)
                · have q121 := of_decide_eq_true h121
                  refine TQ.val rfl rfl rfl (gives_pick rfl rfl rfl) ?_
                  refine TQ.val rfl rfl rfl (gives_assign rfl rfl) ?_
                  refine TQ.val rfl rfl rfl (gives_assign rfl rfl) ?_
                  refine TQ.fin ?_
                  refine TX.in_normal ?_
                  refine TX.then_ ?_
                  refine TC.region ?_
                  refine TL.val rfl rfl rfl (gives_move rfl rfl) ?_
                  refine TL.val rfl rfl rfl (gives_bin rfl rfl rfl (fun w => bin_add_ (r := ((c + 1 : Nat) : Int)) (by simp only [IntKind.wrap_i64]; omega) w)) ?_
                  refine TL.val rfl rfl rfl (gives_assign rfl rfl) ?_
                  refine TL.end_ ?_
                  exact TX.round (⟨(c + 1, false, true), by dsimp only; omega, seen_not hfa hx107 q111, seen_now hcn hx107 q121⟩) (by show fr + 1 - (c + 1) < fr + 1 - c; omega) ⟨rfl, rfl, rfl, rfl, rfl, rfl, rfl, rfl, rfl, rfl, trivial⟩ (fun w1 hw => hw)
                · have q121 := of_decide_eq_false h121
                  refine TQ.val rfl rfl rfl (gives_pick rfl rfl rfl) ?_
                  refine TQ.val rfl rfl rfl (gives_assign rfl rfl) ?_
                  refine TQ.val rfl rfl rfl (gives_assign rfl rfl) ?_
                  refine TQ.fin ?_
                  refine TX.in_normal ?_
                  refine TX.then_ ?_
                  refine TC.region ?_
                  refine TL.val rfl rfl rfl (gives_move rfl rfl) ?_
                  refine TL.val rfl rfl rfl (gives_bin rfl rfl rfl (fun w => bin_add_ (r := ((c + 1 : Nat) : Int)) (by simp only [IntKind.wrap_i64]; omega) w)) ?_
                  refine TL.val rfl rfl rfl (gives_assign rfl rfl) ?_
                  refine TL.end_ ?_
                  exact TX.round (⟨(c + 1, false, false), by dsimp only; omega, seen_not hfa hx107 q111, seen_not hfb hx107 q121⟩) (by show fr + 1 - (c + 1) < fr + 1 - c; omega) ⟨rfl, rfl, rfl, rfl, rfl, rfl, rfl, rfl, rfl, rfl, trivial⟩ (fun w1 hw => hw)
        · have q99 := of_decide_eq_false h99
          refine TL.val rfl rfl rfl (gives_pick rfl rfl rfl) ?_
          refine TL.end_ ?_
          refine TX.then_ ?_
          refine TC.condF rfl ?_
          refine TC.exit_ ?_
          refine TX.then_exit ?_
          refine TX.then_exit ?_
          refine TX.in_same ?_
          refine TX.then_ ?_
          refine TC.seq_ ?_
          obtain rfl : fa = true := hfa.2 ⟨ma, ha1, by omega, ha3⟩
          obtain rfl : fb = true := hfb.2 ⟨mb, hb1, by omega, hb3⟩
          refine TC.region ?_
          refine TL.val rfl rfl rfl (gives_move rfl rfl) ?_
          refine TL.val rfl rfl rfl (gives_boolnot rfl rfl) ?_
          refine TL.val rfl rfl rfl (gives_move rfl rfl) ?_
          refine TL.on rfl rfl rfl ?_
          refine TL.val rfl rfl rfl (gives_move rfl rfl) ?_
          refine TL.on rfl rfl rfl ?_
          refine TL.val rfl rfl rfl (gives_boolnot rfl rfl) ?_
          refine TL.val rfl rfl rfl (gives_pick rfl rfl rfl) ?_
          refine TL.end_ ?_
          refine TX.then_ ?_
          refine TC.condF rfl ?_
          refine TC.skip_ ?_
          refine TX.in_normal ?_
          refine TX.then_ ?_
          clear hfa hfb
          refine TC.region ?_
          refine TL.val rfl rfl rfl (gives_bin rfl rfl rfl (fun w => bin_add_ (r := ((k + 1 : Nat) : Int)) (by simp only [IntKind.wrap_i64]; omega) w)) ?_
          refine TL.val rfl rfl rfl (gives_move rfl rfl) ?_
          refine TL.end_ ?_
          exact TX.round (⟨k + 1, by omega⟩) (by show (winV es 3 ps).length - (k + 1) < (winV es 3 ps).length - k; omega) ⟨rfl, rfl, rfl, rfl, trivial⟩ (fun w1 hw => hw.pick [1, 2, 3, 4, 5, 6] (by decide) rfl)
      · have q94 := of_decide_eq_false h94
        refine TL.val rfl rfl rfl (gives_move rfl rfl) ?_
        refine TL.off rfl rfl rfl rfl rfl rfl ?_
        refine TL.off rfl rfl rfl rfl rfl rfl ?_
        refine TL.off rfl rfl rfl rfl rfl rfl ?_
        refine TL.off rfl rfl rfl rfl rfl rfl ?_
        refine TL.val rfl rfl rfl (gives_pick rfl rfl rfl) ?_
        refine TL.end_ ?_
        refine TX.then_ ?_
        refine TC.condF rfl ?_
        refine TC.exit_ ?_
        refine TX.then_exit ?_
        refine TX.then_exit ?_
        refine TX.in_same ?_
        refine TX.then_ ?_
        refine TC.seq_ ?_
        obtain rfl : fa = true := hfa.2 ⟨ma, ha1, by omega, ha3⟩
        obtain rfl : fb = true := hfb.2 ⟨mb, hb1, by omega, hb3⟩
        refine TC.region ?_
        refine TL.val rfl rfl rfl (gives_move rfl rfl) ?_
        refine TL.val rfl rfl rfl (gives_boolnot rfl rfl) ?_
        refine TL.val rfl rfl rfl (gives_move rfl rfl) ?_
        refine TL.on rfl rfl rfl ?_
        refine TL.val rfl rfl rfl (gives_move rfl rfl) ?_
        refine TL.on rfl rfl rfl ?_
        refine TL.val rfl rfl rfl (gives_boolnot rfl rfl) ?_
        refine TL.val rfl rfl rfl (gives_pick rfl rfl rfl) ?_
        refine TL.end_ ?_
        refine TX.then_ ?_
        refine TC.condF rfl ?_
        refine TC.skip_ ?_
        refine TX.in_normal ?_
        refine TX.then_ ?_
        clear hfa hfb
        refine TC.region ?_
        refine TL.val rfl rfl rfl (gives_bin rfl rfl rfl (fun w => bin_add_ (r := ((k + 1 : Nat) : Int)) (by simp only [IntKind.wrap_i64]; omega) w)) ?_
        refine TL.val rfl rfl rfl (gives_move rfl rfl) ?_
        refine TL.end_ ?_
        exact TX.round (⟨k + 1, by omega⟩) (by show (winV es 3 ps).length - (k + 1) < (winV es 3 ps).length - k; omega) ⟨rfl, rfl, rfl, rfl, trivial⟩ (fun w1 hw => hw.pick [1, 2, 3, 4, 5, 6] (by decide) rfl)
    · have q82 := of_decide_eq_false h82
      refine TL.end_ ?_
      refine TX.then_ ?_
      refine TC.seq_ ?_
      refine TC.condF rfl ?_
      refine TC.exit_ ?_
      refine TX.then_exit ?_
      refine TX.then_exit ?_
      refine TX.in_same ?_
      refine TX.then_ ?_
      refine TC.seq_ ?_
      refine TC.region ?_
      refine TL.val rfl rfl rfl (gives_assign rfl rfl) ?_
      refine TL.end_ ?_
      refine TX.then_ ?_
      refine TC.ret_ ?_
      exact ret_tmp Try.results4 rfl (fun w1 hw => ⟨rfl, hwb.trans (hw.bel.mono hwb.size)⟩)
end Go.Proofs.Ytmbcclgnjobikaa
