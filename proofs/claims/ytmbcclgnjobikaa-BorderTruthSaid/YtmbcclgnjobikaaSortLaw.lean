/-
  Sorting in place, the plain laws: what swaps leave, insertion, sifting, parting. No program is imported.
-/
import Derived.Test.YtmbcclgnjobikaaSymCall
namespace Go.Proofs.Ytmbcclgnjobikaa
set_option linter.unusedVariables false
set_option linter.unusedSimpArgs false
abbrev dx (xs : List Int) (i : Nat) : Int := xs.getD i 0
def swp (xs : List Int) (i j : Nat) : List Int := (xs.set i (dx xs j)).set j (dx xs i)
theorem swp_len (xs : List Int) (i j : Nat) : (swp xs i j).length = xs.length := by simp [swp]
theorem dx_set {xs : List Int} {i : Nat} (h : i < xs.length) (v : Int) (k : Nat) : dx (xs.set i v) k = if k = i then v else dx xs k := by
  unfold dx
  rw [List.getD_eq_getElem?_getD, List.getD_eq_getElem?_getD, List.getElem?_set]
  by_cases e : i = k
  · subst e; simp [h]
  · rw [if_neg e, if_neg (fun e2 => e e2.symm)]
theorem swp_dx {xs : List Int} {i j : Nat} (hi : i < xs.length) (hj : j < xs.length) (k : Nat) : dx (swp xs i j) k = if k = j then dx xs i else if k = i then dx xs j else dx xs k := by
  unfold swp
  rw [dx_set (by simpa using hj), dx_set hi]
theorem swp_perm {xs : List Int} {i j : Nat} (hi : i < xs.length) (hj : j < xs.length) : (swp xs i j).Perm xs := by
  have h := List.set_set_perm hi hj
  unfold swp dx
  rw [List.getD_eq_getElem?_getD, List.getD_eq_getElem?_getD, List.getElem?_eq_getElem hi, List.getElem?_eq_getElem hj]
  exact h
/-- only the places from a to b were moved about -/
structure Pin (a b : Nat) (xs ys : List Int) : Prop where
  len : ys.length = xs.length
  perm : ys.Perm xs
  out : ∀ i, i < a ∨ b ≤ i → dx ys i = dx xs i
  ins : ∀ i, a ≤ i → i < b → ∃ j, a ≤ j ∧ j < b ∧ dx ys i = dx xs j
theorem Pin.refl (a b : Nat) (xs : List Int) : Pin a b xs xs := ⟨rfl, List.Perm.refl _, fun _ _ => rfl, fun i h1 h2 => ⟨i, h1, h2, rfl⟩⟩
theorem Pin.trans {a b : Nat} {xs ys zs : List Int} (h : Pin a b xs ys) (h2 : Pin a b ys zs) : Pin a b xs zs :=
  ⟨h2.len.trans h.len, h2.perm.trans h.perm, fun i hi => (h2.out i hi).trans (h.out i hi), fun i h3 h4 => by
    obtain ⟨j, a1, a2, a3⟩ := h2.ins i h3 h4
    obtain ⟨k, b1, b2, b3⟩ := h.ins j a1 a2
    exact ⟨k, b1, b2, a3.trans b3⟩⟩
theorem Pin.mono {a b a' b' : Nat} {xs ys : List Int} (h : Pin a b xs ys) (ha : a' ≤ a) (hb : b ≤ b') : Pin a' b' xs ys :=
  ⟨h.len, h.perm, fun i hi => h.out i (by omega), fun i h1 h2 => by
    by_cases e : a ≤ i ∧ i < b
    · obtain ⟨j, c1, c2, c3⟩ := h.ins i e.1 e.2
      exact ⟨j, by omega, by omega, c3⟩
    · exact ⟨i, h1, h2, h.out i (by omega)⟩⟩
theorem Pin.swp1 {a b i j : Nat} {xs : List Int} (hb : b ≤ xs.length) (h1 : a ≤ i) (h2 : i < b) (h3 : a ≤ j) (h4 : j < b) : Pin a b xs (swp xs i j) := by
  have hi : i < xs.length := by omega
  have hj : j < xs.length := by omega
  refine ⟨swp_len _ _ _, swp_perm hi hj, fun k hk => ?_, fun k hk1 hk2 => ?_⟩
  · rw [swp_dx hi hj, if_neg (by omega), if_neg (by omega)]
  · by_cases e : k = j
    · exact ⟨i, h1, h2, by rw [swp_dx hi hj, if_pos e]⟩
    · by_cases e2 : k = i
      · exact ⟨j, h3, h4, by rw [swp_dx hi hj, if_neg e, if_pos e2]⟩
      · exact ⟨k, hk1, hk2, by rw [swp_dx hi hj, if_neg e, if_neg e2]⟩
theorem Pin.swap {a b i j : Nat} {xs ys : List Int} (h : Pin a b xs ys) (hb : b ≤ xs.length) (h1 : a ≤ i) (h2 : i < b) (h3 : a ≤ j) (h4 : j < b) : Pin a b xs (swp ys i j) :=
  h.trans (Pin.swp1 (by rw [h.len]; exact hb) h1 h2 h3 h4)
def Srt (a b : Nat) (xs : List Int) : Prop := ∀ p q, a ≤ p → p < q → q < b → dx xs p ≤ dx xs q
/-- what stands ahead of a is not greater than what lies from a to b -/
def Low (a b : Nat) (xs : List Int) : Prop := ∀ p q, p + 1 = a → a ≤ q → q < b → dx xs p ≤ dx xs q
theorem Low.pin {a b : Nat} {xs ys : List Int} (h : Low a b xs) (hp : Pin a b xs ys) : Low a b ys := fun p q h1 h2 h3 => by
  obtain ⟨j, a1, a2, a3⟩ := hp.ins q h2 h3
  rw [hp.out p (by omega), a3]
  exact h p j h1 a1 a2
/-! ### Insertion -/
/-- in order but for the place j, that goes down -/
def Ins (a i j : Nat) (xs : List Int) : Prop := ∀ p q, a ≤ p → p < q → q ≤ i → q ≠ j → dx xs p ≤ dx xs q
theorem Ins.start {a i : Nat} {xs : List Int} (h : Srt a i xs) : Ins a i i xs := fun p q h1 h2 h3 h4 => h p q h1 h2 (by omega)
theorem Ins.stop {a i j : Nat} {xs : List Int} (h : Ins a i j xs) (hs : a < j → dx xs (j - 1) ≤ dx xs j) : Srt a (i + 1) xs := fun p q h1 h2 h3 => by
  by_cases e : q = j
  · subst e
    refine Int.le_trans ?_ (hs (by omega))
    by_cases e2 : p = q - 1
    · rw [e2]; exact Int.le_refl _
    · exact h p (q - 1) h1 (by omega) (by omega) (by omega)
  · exact h p q h1 h2 (by omega) e
theorem Ins.down {a i j : Nat} {xs : List Int} (h : Ins a i j xs) (h1 : a < j) (h2 : j ≤ i) (hl : i < xs.length) (hlt : dx xs j < dx xs (j - 1)) : Ins a i (j - 1) (swp xs j (j - 1)) := fun p q a1 a2 a3 a4 => by
  rw [swp_dx (by omega) (by omega), swp_dx (by omega) (by omega)]
  by_cases c1 : q = j - 1
  · exact absurd c1 a4
  · rw [if_neg c1]
    by_cases c2 : q = j
    · rw [if_pos c2]
      by_cases c3 : p = j - 1
      · rw [if_pos c3]; omega
      · rw [if_neg c3, if_neg (by omega)]
        exact h p (j - 1) a1 (by omega) (by omega) (by omega)
    · rw [if_neg c2]
      by_cases c3 : p = j - 1
      · rw [if_pos c3]
        exact h j q (by omega) (by omega) a3 c2
      · rw [if_neg c3]
        by_cases c4 : p = j
        · rw [if_pos c4]
          exact h (j - 1) q (by omega) (by omega) a3 c2
        · rw [if_neg c4]
          exact h p q a1 a2 a3 c2
theorem Srt.one {a b : Nat} {xs : List Int} (h : b ≤ a + 1) : Srt a b xs := fun p q h1 h2 h3 => by omega
theorem Srt.less {a b c : Nat} {xs : List Int} (h : Srt a b xs) (hc : c ≤ b) : Srt a c xs := fun p q h1 h2 h3 => h p q h1 h2 (by omega)
theorem Srt.snoc {a i : Nat} {xs : List Int} (h : Srt a i xs) (h1 : a < i → dx xs (i - 1) ≤ dx xs i) : Srt a (i + 1) xs := (Ins.start h).stop h1
theorem Srt.same {a b : Nat} {xs ys : List Int} (h : Srt a b xs) (he : ∀ k, a ≤ k → k < b → dx ys k = dx xs k) : Srt a b ys := fun p q h1 h2 h3 => by
  rw [he p h1 (by omega), he q (by omega) h3]
  exact h p q h1 h2 h3
/-! ### Sifting -/
def Hp (f lo hi : Nat) (xs : List Int) : Prop := ∀ i c, lo ≤ i → (c = 2 * i + 1 ∨ c = 2 * i + 2) → c < hi → dx xs (f + c) ≤ dx xs (f + i)
/-- a heap but for the place r -/
structure Sft (f lo hi r : Nat) (xs : List Int) : Prop where
  at_ : lo ≤ r
  heap : ∀ i c, lo ≤ i → i ≠ r → (c = 2 * i + 1 ∨ c = 2 * i + 2) → c < hi → dx xs (f + c) ≤ dx xs (f + i)
  up : ∀ i c, lo ≤ i → (r = 2 * i + 1 ∨ r = 2 * i + 2) → (c = 2 * r + 1 ∨ c = 2 * r + 2) → c < hi → dx xs (f + c) ≤ dx xs (f + i)
theorem Sft.start {f lo hi : Nat} {xs : List Int} (h : Hp f (lo + 1) hi xs) : Sft f lo hi lo xs := ⟨Nat.le_refl _, fun i c h1 h2 h3 h4 => h i c (by omega) h3 h4, fun i c h1 h2 _ _ => by omega⟩
theorem Sft.stop {f lo hi r : Nat} {xs : List Int} (h : Sft f lo hi r xs) (hs : ∀ c, (c = 2 * r + 1 ∨ c = 2 * r + 2) → c < hi → dx xs (f + c) ≤ dx xs (f + r)) : Hp f lo hi xs := fun i c h1 h2 h3 => by
  by_cases e : i = r
  · subst e; exact hs c h2 h3
  · exact h.heap i c h1 e h2 h3
theorem Sft.down {f lo hi r c : Nat} {xs : List Int} (h : Sft f lo hi r xs) (hl : f + hi ≤ xs.length) (hc : c = 2 * r + 1 ∨ c = 2 * r + 2) (hch : c < hi) (hlt : dx xs (f + r) < dx xs (f + c)) (hmax : ∀ d, (d = 2 * r + 1 ∨ d = 2 * r + 2) → d < hi → dx xs (f + d) ≤ dx xs (f + c)) :
    Sft f lo hi c (swp xs (f + r) (f + c)) := by
  have hlo := h.at_
  have e1 : f + r < xs.length := by omega
  have e2 : f + c < xs.length := by omega
  refine ⟨by omega, fun i d h1 h2 h3 h4 => ?_, fun i d h1 h2 h3 h4 => ?_⟩
  · rw [swp_dx e1 e2, swp_dx e1 e2]
    by_cases c1 : i = r
    · subst c1
      by_cases c2 : d = c
      · subst c2
        rw [if_pos rfl, if_neg (by omega), if_pos rfl]; omega
      · rw [if_neg (by omega), if_neg (by omega), if_neg (by omega), if_pos rfl]
        exact hmax d h3 h4
    · by_cases c2 : d = r
      · subst c2
        rw [if_neg (by omega), if_pos rfl, if_neg (by omega), if_neg (by omega)]
        exact h.up i c h1 h3 hc hch
      · rw [if_neg (by omega), if_neg (by omega), if_neg (by omega), if_neg (by omega)]
        exact h.heap i d h1 c1 h3 h4
  · have hi : i = r := by omega
    subst hi
    rw [swp_dx e1 e2, swp_dx e1 e2, if_neg (by omega), if_neg (by omega), if_neg (by omega), if_pos rfl]
    exact h.heap c d (by omega) (by omega) h3 h4
theorem Hp.top {f hi : Nat} {xs : List Int} (h : Hp f 0 hi xs) : ∀ j, j < hi → dx xs (f + j) ≤ dx xs f
  | j, hj => by
    rcases Nat.eq_zero_or_pos j with h0 | h0
    · subst h0; exact Int.le_refl _
    · exact Int.le_trans (h ((j - 1) / 2) j (Nat.zero_le _) (by omega) hj) (Hp.top h ((j - 1) / 2) (by omega))
/-- the heap's rest and what is sorted behind it -/
structure Hsr (f m hi : Nat) (xs : List Int) : Prop where
  heap : Hp f 0 m xs
  tail : ∀ j k, j < k → k < hi → m ≤ k → dx xs (f + j) ≤ dx xs (f + k)
theorem Hsr.step {f i hi : Nat} {xs ys : List Int} (h : Hsr f (i + 1) hi xs) (hi' : i < hi) (hl : f + hi ≤ xs.length) (hp : Pin f (f + i) (swp xs f (f + i)) ys) (hh : Hp f 0 i ys) : Hsr f i hi ys := by
  have e1 : f < xs.length := by omega
  have e2 : f + i < xs.length := by omega
  refine ⟨hh, fun j k h1 h2 h3 => ?_⟩
  -- all that lies below i now came from the heap
  have key : ∀ j, j < i → ∃ z, z < i + 1 ∧ dx ys (f + j) = dx xs (f + z) := fun j hj => by
    obtain ⟨z, z1, z2, z3⟩ := hp.ins (f + j) (by omega) (by omega)
    rw [z3, swp_dx e1 e2]
    by_cases c1 : z = f + i
    · omega
    · rw [if_neg c1]
      by_cases c2 : z = f
      · exact ⟨i, by omega, by rw [if_pos c2]⟩
      · exact ⟨z - f, by omega, by rw [if_neg c2]; congr 1; omega⟩
  have top : dx ys (f + i) = dx xs f := by rw [hp.out (f + i) (by omega), swp_dx e1 e2, if_pos rfl]
  have rest : ∀ k, i < k → dx ys (f + k) = dx xs (f + k) := fun k hk => by rw [hp.out (f + k) (by omega), swp_dx e1 e2, if_neg (by omega), if_neg (by omega)]
  by_cases c1 : k = i
  · subst c1
    obtain ⟨z, z1, z2⟩ := key j h1
    rw [z2, top]
    exact h.heap.top z z1
  · rw [rest k (by omega)]
    by_cases c2 : j < i
    · obtain ⟨z, z1, z2⟩ := key j c2
      rw [z2]
      exact h.tail z k (by omega) h2 (by omega)
    · by_cases c3 : j = i
      · subst c3
        rw [top]
        exact h.tail 0 k (by omega) h2 (by omega)
      · rw [rest j (by omega)]
        exact h.tail j k h1 h2 (by omega)
theorem Hp.swap0 {f i : Nat} {xs : List Int} (h : Hp f 0 (i + 1) xs) (hl : f + i < xs.length) : Hp f 1 i (swp xs f (f + i)) := fun j c h1 h2 h3 => by
  rw [swp_dx (by omega) hl, swp_dx (by omega) hl, if_neg (by omega), if_neg (by omega), if_neg (by omega), if_neg (by omega)]
  exact h j c (by omega) h2 (by omega)
theorem Hsr.done {f hi : Nat} {xs : List Int} (h : Hsr f 0 hi xs) : Srt f (f + hi) xs := fun p q h1 h2 h3 => by
  have := h.tail (p - f) (q - f) (by omega) (by omega) (by omega)
  rwa [show f + (p - f) = p by omega, show f + (q - f) = q by omega] at this
/-! ### Parting -/
/-- the places about i and j, while a list is parted at what lies at a -/
structure Prt (a b i j : Nat) (xs : List Int) : Prop where
  hi : a + 1 ≤ i
  hj : j < b
  ij : i ≤ j + 1
  lo : ∀ k, a < k → k < i → dx xs k ≤ dx xs a
  up : ∀ k, j < k → k < b → dx xs a ≤ dx xs k
theorem Prt.start {a b : Nat} {xs : List Int} (h : a < b) : Prt a b (a + 1) (b - 1) xs := ⟨Nat.le_refl _, by omega, by omega, fun k h1 h2 => by omega, fun k h1 h2 => by omega⟩
theorem Prt.inc {a b i j : Nat} {xs : List Int} (h : Prt a b i j xs) (hij : i ≤ j) (hl : dx xs i ≤ dx xs a) : Prt a b (i + 1) j xs :=
  ⟨by have := h.hi; omega, h.hj, by omega, fun k h1 h2 => by
    by_cases e : k = i
    · rw [e]; exact hl
    · exact h.lo k h1 (by omega), h.up⟩
theorem Prt.dec {a b i j : Nat} {xs : List Int} (h : Prt a b i j xs) (hij : i ≤ j) (hl : dx xs a ≤ dx xs j) : Prt a b i (j - 1) xs :=
  ⟨h.hi, by have := h.hj; omega, by have := h.hi; omega, h.lo, fun k h1 h2 => by
    by_cases e : k = j
    · rw [e]; exact hl
    · exact h.up k (by omega) h2⟩
theorem Prt.swap {a b i j : Nat} {xs : List Int} (h : Prt a b i j xs) (hb : b ≤ xs.length) (hij : i < j) (h1 : dx xs j ≤ dx xs a) (h2 : dx xs a ≤ dx xs i) : Prt a b (i + 1) (j - 1) (swp xs i j) := by
  have hi := h.hi
  have hj := h.hj
  have ea : dx (swp xs i j) a = dx xs a := by rw [swp_dx (by omega) (by omega), if_neg (by omega), if_neg (by omega)]
  refine ⟨by omega, by omega, by omega, fun k k1 k2 => ?_, fun k k1 k2 => ?_⟩
  · rw [ea, swp_dx (by omega) (by omega), if_neg (by omega)]
    by_cases e : k = i
    · rw [if_pos e]; exact h1
    · rw [if_neg e]; exact h.lo k k1 (by omega)
  · rw [ea, swp_dx (by omega) (by omega)]
    by_cases e : k = j
    · rw [if_pos e]; exact h2
    · rw [if_neg e, if_neg (by omega)]; exact h.up k (by omega) k2
/-- parted at m -/
structure Mid (a b m : Nat) (xs : List Int) : Prop where
  hm : a ≤ m ∧ m < b
  lo : ∀ k, a ≤ k → k < m → dx xs k ≤ dx xs m
  up : ∀ k, m < k → k < b → dx xs m ≤ dx xs k
theorem Prt.mid {a b i j : Nat} {xs : List Int} (h : Prt a b i j xs) (hb : b ≤ xs.length) (hij : j < i) : Mid a b j (swp xs j a) := by
  have hi := h.hi
  have hj := h.hj
  have hij2 := h.ij
  have ej : dx (swp xs j a) j = dx xs a := by
    rw [swp_dx (by omega) (by omega)]
    by_cases e : j = a
    · rw [if_pos e, e]
    · rw [if_neg e, if_pos rfl]
  refine ⟨by omega, fun k k1 k2 => ?_, fun k k1 k2 => ?_⟩
  · rw [ej, swp_dx (by omega) (by omega)]
    by_cases e : k = a
    · rw [if_pos e]; exact h.lo j (by omega) (by omega)
    · rw [if_neg e, if_neg (by omega)]; exact h.lo k (by omega) (by omega)
  · rw [ej, swp_dx (by omega) (by omega), if_neg (by omega), if_neg (by omega)]
    exact h.up k k1 k2
/-! ### The whole -/
/-- of two places of which one lies outside, the first is not greater -/
def Out (a0 b0 a b : Nat) (xs : List Int) : Prop := ∀ p q, a0 ≤ p → p < q → q < b0 → (p < a ∨ b ≤ q) → dx xs p ≤ dx xs q
theorem Out.start (a b : Nat) (xs : List Int) : Out a b a b xs := fun p q h1 h2 h3 h4 => by omega
theorem Out.pin {a0 b0 a b : Nat} {xs ys : List Int} (h : Out a0 b0 a b xs) (ha : a0 ≤ a) (hb : b ≤ b0) (hp : Pin a b xs ys) : Out a0 b0 a b ys := fun p q h1 h2 h3 h4 => by
  by_cases c1 : a ≤ p ∧ p < b
  · obtain ⟨j, j1, j2, j3⟩ := hp.ins p c1.1 c1.2
    rw [j3, hp.out q (by omega)]
    exact h j q (by omega) (by omega) h3 (by omega)
  · by_cases c2 : a ≤ q ∧ q < b
    · obtain ⟨j, j1, j2, j3⟩ := hp.ins q c2.1 c2.2
      rw [j3, hp.out p (by omega)]
      exact h p j h1 (by omega) (by omega) (by omega)
    · rw [hp.out p (by omega), hp.out q (by omega)]
      exact h p q h1 h2 h3 h4
theorem Out.done {a0 b0 a b : Nat} {xs : List Int} (h : Out a0 b0 a b xs) (hs : Srt a b xs) : Srt a0 b0 xs := fun p q h1 h2 h3 => by
  by_cases c : p < a ∨ b ≤ q
  · exact h p q h1 h2 h3 c
  · exact hs p q (by omega) h2 (by omega)
/-- the lower part is sorted -/
theorem Out.left {a0 b0 a b m : Nat} {xs ys : List Int} (h : Out a0 b0 a b xs) (ha : a0 ≤ a) (hb : b ≤ b0) (hm : Mid a b m xs) (hp : Pin a m xs ys) (hs : Srt a m ys) : Out a0 b0 (m + 1) b ys := fun p q h1 h2 h3 h4 => by
  have hab := hm.hm
  have h' := h.pin ha hb (hp.mono (Nat.le_refl _) (by omega))
  by_cases c : p < a ∨ b ≤ q
  · exact h' p q h1 h2 h3 c
  · by_cases c1 : q < m
    · exact hs p q (by omega) h2 c1
    · have hpm : dx ys p ≤ dx ys m := by
        by_cases e : p = m
        · rw [e]; exact Int.le_refl _
        · obtain ⟨j, j1, j2, j3⟩ := hp.ins p (by omega) (by omega)
          rw [j3, hp.out m (by omega)]
          exact hm.lo j j1 j2
      by_cases e : q = m
      · rw [e]; exact hpm
      · refine Int.le_trans hpm ?_
        rw [hp.out m (by omega), hp.out q (by omega)]
        exact hm.up q (by omega) (by omega)
/-- the upper part is sorted -/
theorem Out.right {a0 b0 a b m : Nat} {xs ys : List Int} (h : Out a0 b0 a b xs) (ha : a0 ≤ a) (hb : b ≤ b0) (hm : Mid a b m xs) (hp : Pin (m + 1) b xs ys) (hs : Srt (m + 1) b ys) : Out a0 b0 a m ys := fun p q h1 h2 h3 h4 => by
  have hab := hm.hm
  have h' := h.pin ha hb (hp.mono (by omega) (Nat.le_refl _))
  by_cases c : p < a ∨ b ≤ q
  · exact h' p q h1 h2 h3 c
  · by_cases c1 : m < p
    · exact hs p q (by omega) h2 (by omega)
    · have hmq : dx ys m ≤ dx ys q := by
        by_cases e : q = m
        · rw [e]; exact Int.le_refl _
        · obtain ⟨j, j1, j2, j3⟩ := hp.ins q (by omega) (by omega)
          rw [j3, hp.out m (by omega)]
          exact hm.up j (by omega) j2
      by_cases e : p = m
      · rw [e]; exact hmq
      · refine Int.le_trans ?_ hmq
        rw [hp.out m (by omega), hp.out p (by omega)]
        exact hm.lo p (by omega) (by omega)
theorem Low.right {a b m : Nat} {xs ys : List Int} (hm : Mid a b m xs) (hp : Pin a m xs ys) : Low (m + 1) b ys := fun p q h1 h2 h3 => by
  rw [hp.out p (by omega), hp.out q (by omega), show p = m by omega]
  exact hm.up q (by omega) h3
theorem Low.right0 {a b m : Nat} {xs : List Int} (hm : Mid a b m xs) : Low (m + 1) b xs := Low.right hm (Pin.refl a m xs)
theorem Low.left {a b m : Nat} {xs ys : List Int} (h : Low a b xs) (hm : m ≤ b) (hp : Pin (m + 1) b xs ys) (ham : a ≤ m) : Low a m ys := fun p q h1 h2 h3 => by
  rw [hp.out p (by omega), hp.out q (by omega)]
  exact h p q h1 h2 (by omega)
/-- what is equal to the least goes aside -/
structure Eqs (a b m : Nat) (xs : List Int) : Prop where
  hm : a < m ∧ m ≤ b
  lo : ∀ k, a ≤ k → k < m → dx xs k ≤ dx xs a
  up : ∀ k, m ≤ k → k < b → dx xs a ≤ dx xs k
theorem Prt.eqs {a b i j : Nat} {xs : List Int} (h : Prt a b i j xs) (hij : j < i) : Eqs a b i xs := by
  have hi := h.hi
  have hj := h.hj
  have hij2 := h.ij
  refine ⟨by omega, fun k k1 k2 => ?_, fun k k1 k2 => h.up k (by omega) k2⟩
  by_cases e : k = a
  · rw [e]; exact Int.le_refl _
  · exact h.lo k (by omega) k2
theorem Out.eqs {a0 b0 a b m : Nat} {xs : List Int} (h : Out a0 b0 a b xs) (he : Eqs a b m xs) (hmin : ∀ k, a ≤ k → k < b → dx xs a ≤ dx xs k) : Out a0 b0 m b xs := fun p q h1 h2 h3 h4 => by
  have := he.hm
  by_cases c : p < a ∨ b ≤ q
  · exact h p q h1 h2 h3 c
  · exact Int.le_trans (he.lo p (by omega) (by omega)) (hmin q (by omega) (by omega))
theorem Eqs.low {a b m : Nat} {xs : List Int} (he : Eqs a b m xs) : Low m b xs := fun p q h1 h2 h3 => by
  have := he.hm
  exact Int.le_trans (he.lo p (by omega) (by omega)) (he.up q h2 h3)
end Go.Proofs.Ytmbcclgnjobikaa
