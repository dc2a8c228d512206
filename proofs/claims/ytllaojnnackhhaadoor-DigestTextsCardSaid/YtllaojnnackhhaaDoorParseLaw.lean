/-
  What a string of hexadecimal digits means. No program is walked.
-/
import Derived.Test.YtllaojnnackhhaaDoorHexLaw
import Derived.Lib.Bytealg
namespace Go.Proofs.YtllaojnnackhhaaDoor
open Go.RowKit
set_option linter.unusedVariables false
set_option linter.unusedSimpArgs false
def digV (x : Int) : Int := if 48 ≤ x ∧ x ≤ 57 then x - 48 else if 97 ≤ x ∧ x ≤ 102 then x - 87 else -1
theorem digV_lt (x : Int) : -1 ≤ digV x ∧ digV x < 16 := by unfold digV; split <;> (try split) <;> omega
theorem digV_hexD {i : Int} (h : 0 ≤ i ∧ i < 16) : digV (hexD i) = i := by unfold digV hexD; split <;> split <;> (try split) <;> omega
theorem hexD_digV {x : Int} (h : 0 ≤ digV x) : hexD (digV x) = x := by
  unfold digV at h ⊢
  unfold hexD
  split <;> (try split) <;> (try split) <;> simp_all <;> omega
def goodP (s : List Int) (j : Nat) : Bool := decide (0 ≤ digV (s.getD (2 * j) 0)) && decide (0 ≤ digV (s.getD (2 * j + 1) 0))
def okP (s : List Int) (k : Nat) : Bool := (List.range k).all (goodP s)
theorem okP_succ {s : List Int} {k : Nat} : okP s (k + 1) = (okP s k && goodP s k) := by simp [okP, List.range_succ]
theorem okP_le {s : List Int} {j k : Nat} (h : j < k) (hj : goodP s j = false) : okP s k = false := by
  unfold okP
  rw [List.all_eq_false]
  exact ⟨j, List.mem_range.2 h, by simp [hj]⟩
def valP (s : List Int) (k : Nat) : List Int := (List.range k).map fun j => 16 * digV (s.getD (2 * j) 0) + digV (s.getD (2 * j + 1) 0)
theorem valP_succ (s : List Int) (k : Nat) : valP s (k + 1) = valP s k ++ [16 * digV (s.getD (2 * k) 0) + digV (s.getD (2 * k + 1) 0)] := by simp [valP, List.range_succ]
theorem valP_len (s : List Int) (k : Nat) : (valP s k).length = k := by simp [valP]
theorem valP_bs {s : List Int} {k : Nat} (h : okP s k = true) : Bs (valP s k) := by
  intro x hx
  simp only [valP, List.mem_map, List.mem_range] at hx
  obtain ⟨j, hj, rfl⟩ := hx
  have hg := List.all_eq_true.1 h j (List.mem_range.2 hj)
  simp only [goodP, Bool.and_eq_true, decide_eq_true_eq] at hg
  have := digV_lt (s.getD (2 * j) 0)
  have := digV_lt (s.getD (2 * j + 1) 0)
  omega
/-- may the string be read -/
def canP (s : List Int) : Bool := decide (s.length % 2 = 0) && okP s (s.length / 2)
def outP (s : List Int) : List Int := if canP s then valP s (s.length / 2) else []
def errP (s : List Int) : Int := if canP s then 0 else 2
theorem outP_bs (s : List Int) : Bs (outP s) := by
  unfold outP; split
  · rename_i h
    simp only [canP, Bool.and_eq_true] at h
    exact valP_bs h.2
  · exact Bs.nil
theorem outP_len (s : List Int) : (outP s).length ≤ s.length := by
  unfold outP; split
  · rw [valP_len]; omega
  · simp
theorem hexL_at (l : List Int) : ∀ {j : Nat}, j < l.length → (hexL l).getD (2 * j) 0 = hexD (l.getD j 0 / 16) ∧ (hexL l).getD (2 * j + 1) 0 = hexD (l.getD j 0 % 16) := by
  induction l with
  | nil => intro j h; simp at h
  | cons x l ih =>
    intro j h
    cases j with
    | zero => exact ⟨rfl, rfl⟩
    | succ j =>
      have hj := ih (j := j) (by simpa using h)
      have e1 : 2 * (j + 1) = 2 * j + 1 + 1 := by omega
      rw [e1]
      exact hj
theorem hex_can (l : List Int) (h : Bs l) : canP (hexL l) = true := by
  have hl := hexL_len l
  simp only [canP, Bool.and_eq_true, decide_eq_true_eq]
  refine ⟨by omega, List.all_eq_true.2 fun j hj => ?_⟩
  have hj := List.mem_range.1 hj
  obtain ⟨e1, e2⟩ := hexL_at l (j := j) (by omega)
  have hb : 0 ≤ l.getD j 0 ∧ l.getD j 0 ≤ 255 := by
    rw [List.getD_eq_getElem?_getD, List.getElem?_eq_getElem (by omega)]
    exact h _ (List.getElem_mem _)
  simp only [goodP, Bool.and_eq_true, decide_eq_true_eq, e1, e2]
  rw [digV_hexD (by omega), digV_hexD (by omega)]
  omega
theorem hex_out (l : List Int) (h : Bs l) : outP (hexL l) = l := by
  rw [outP, if_pos (hex_can l h)]
  have hl := hexL_len l
  have : (hexL l).length / 2 = l.length := by omega
  rw [this]
  refine List.ext_getElem (by simp [valP]) fun j h1 h2 => ?_
  obtain ⟨e1, e2⟩ := hexL_at l h2
  have hb := h _ (List.getElem_mem h2)
  have hd : l.getD j 0 = l[j] := by rw [List.getD_eq_getElem?_getD, List.getElem?_eq_getElem h2]; rfl
  simp only [valP, List.getElem_map, List.getElem_range, e1, e2, hd]
  rw [digV_hexD (by omega), digV_hexD (by omega)]
  omega
theorem can_hex (s : List Int) (h : canP s = true) : hexL (outP s) = s := by
  rw [outP, if_pos h]
  simp only [canP, Bool.and_eq_true, decide_eq_true_eq] at h
  have hl : (hexL (valP s (s.length / 2))).length = s.length := by rw [hexL_len, valP_len]; omega
  refine List.ext_getElem hl fun i h1 h2 => ?_
  have hv : i / 2 < (valP s (s.length / 2)).length := by rw [valP_len]; omega
  obtain ⟨e1, e2⟩ := hexL_at _ hv
  have hg := List.all_eq_true.1 h.2 (i / 2) (List.mem_range.2 (by rw [valP_len] at hv; exact hv))
  simp only [goodP, Bool.and_eq_true, decide_eq_true_eq] at hg
  have b1 := digV_lt (s.getD (2 * (i / 2)) 0)
  have b2 := digV_lt (s.getD (2 * (i / 2) + 1) 0)
  have hval : (valP s (s.length / 2)).getD (i / 2) 0 = 16 * digV (s.getD (2 * (i / 2)) 0) + digV (s.getD (2 * (i / 2) + 1) 0) := by
    rw [List.getD_eq_getElem?_getD, List.getElem?_eq_getElem hv]
    simp [valP]
  rw [hval] at e1 e2
  have q1 : (16 * digV (s.getD (2 * (i / 2)) 0) + digV (s.getD (2 * (i / 2) + 1) 0)) / 16 = digV (s.getD (2 * (i / 2)) 0) := by omega
  have q2 : (16 * digV (s.getD (2 * (i / 2)) 0) + digV (s.getD (2 * (i / 2) + 1) 0)) % 16 = digV (s.getD (2 * (i / 2) + 1) 0) := by omega
  rw [q1, hexD_digV hg.1] at e1
  rw [q2, hexD_digV hg.2] at e2
  have get : ∀ (a : List Int) (k : Nat) (hk : k < a.length), a[k] = a.getD k 0 := fun a k hk => by rw [List.getD_eq_getElem?_getD, List.getElem?_eq_getElem hk]; rfl
  rw [get _ _ h1, get _ _ h2]
  rcases (by omega : i = 2 * (i / 2) ∨ i = 2 * (i / 2) + 1) with h | h
  · rw [h]; exact e1
  · rw [h]; exact e2
theorem idx_dig {x : Int} (h : 0 ≤ x ∧ x ≤ 255) : Lib.indexByte (strOfNums digitsL).data.toList x.toNat.toUInt8 = digV x := by
  obtain ⟨n, rfl⟩ := Int.eq_ofNat_of_zero_le h.1
  have : ∀ n : Fin 256, Lib.indexByte (strOfNums digitsL).data.toList ((n.1 : Int)).toNat.toUInt8 = digV (n.1 : Int) := by decide +kernel
  exact this ⟨n, by omega⟩
theorem or16 {a b : Int} (ha : 0 ≤ a ∧ a < 16) (hb : 0 ≤ b ∧ b < 16) : bits .or .i64 (IntKind.i64.wrap (a * 16)) b = 16 * a + b := by
  obtain ⟨m, rfl⟩ := Int.eq_ofNat_of_zero_le ha.1
  obtain ⟨n, rfl⟩ := Int.eq_ofNat_of_zero_le hb.1
  have : ∀ m n : Fin 16, bits .or .i64 (IntKind.i64.wrap ((m.1 : Int) * 16)) (n.1 : Int) = 16 * (m.1 : Int) + (n.1 : Int) := by decide +kernel
  exact this ⟨m, by omega⟩ ⟨n, by omega⟩
theorem dig_at (n : Nat) : digitsL[n]? = if n < 16 then some (hexD (n : Int)) else none := by
  split
  · exact digits_at (by assumption)
  · exact List.getElem?_eq_none (by simp [digitsL]; omega)
end Go.Proofs.YtllaojnnackhhaaDoor
