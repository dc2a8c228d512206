/-
  The plain law of the Internet checksum: one's complement sums over lists of bytes. No program is imported.
-/
import Derived.Test.YtllaojnnackhhaaBase
namespace Go.Proofs.Ytllaojnnackhhaa
set_option linter.unusedVariables false
set_option linter.unusedSimpArgs false

/-- the one's complement sum of a sum -/
def oc (n : Int) : Int := if n = 0 then 0 else (n - 1) % 65535 + 1
theorem oc_small {n : Int} (h0 : 0 ≤ n) (h1 : n ≤ 65535) : oc n = n := by
  unfold oc; split <;> omega
theorem oc_bd {n : Int} (h0 : 0 ≤ n) : 0 ≤ oc n ∧ oc n ≤ 65535 := by
  unfold oc; split <;> omega
theorem oc_step {n : Int} (h : 65535 < n) : oc (n / 65536 + n % 65536) = oc n := by
  unfold oc
  rw [if_neg (by omega), if_neg (by omega)]; omega
theorem oc_oc {a b : Int} (ha : 0 ≤ a) (hb : 0 ≤ b) : oc (oc a + b) = oc (a + b) := by
  unfold oc
  split <;> split <;> (try split) <;> omega

/-- the sum of the numbers that bytes are, in pairs: a byte at an even place counts 256 times -/
def raw : List Int → Int
  | [] => 0
  | [x] => x * 256
  | x :: y :: r => x * 256 + y + raw r
def sm (l : List Int) : Int := oc (raw l)
theorem raw_bd : ∀ (l : List Int), Bs l → 0 ≤ raw l ∧ raw l ≤ 65280 * l.length
  | [], _ => by simp [raw]
  | [x], h => by have := h x (by simp); simp [raw]; omega
  | x :: y :: r, h => by
    have hx := h x (by simp)
    have hy := h y (by simp)
    have := raw_bd r (fun z hz => h z (by simp [hz]))
    simp only [raw, List.length_cons]
    omega
theorem raw_snoc : ∀ (l : List Int) (x : Int), raw (l ++ [x]) = raw l + (if l.length % 2 = 0 then x * 256 else x)
  | [], x => by simp [raw]
  | [y], x => by simp [raw]
  | y :: z :: r, x => by
    have := raw_snoc r x
    simp only [List.cons_append, raw, List.length_cons, this]
    have e : (r.length + 1 + 1) % 2 = r.length % 2 := by omega
    simp only [e]; omega
theorem raw_take (l : List Int) (k : Nat) (x : Int) (h : l[k]? = some x) : raw (l.take (k + 1)) = raw (l.take k) + (if k % 2 = 0 then x * 256 else x) := by
  have hk : k < l.length := by
    rcases Nat.lt_or_ge k l.length with h1 | h1
    · exact h1
    · rw [List.getElem?_eq_none h1] at h; cases h
  rw [List.take_add_one, h]
  have := raw_snoc (l.take k) x
  rw [show (l.take k).length = k from by simp; omega] at this
  simpa using this
theorem raw_app : ∀ (a b : List Int), a.length % 2 = 0 → raw (a ++ b) = raw a + raw b
  | [], b, _ => by simp [raw]
  | [x], b, h => by simp at h
  | x :: y :: r, b, h => by
    have := raw_app r b (by simp only [List.length_cons] at h; omega)
    simp only [List.cons_append, raw, this]; omega
theorem sm_app (a b : List Int) (ha : Bs a) (hb : Bs b) (h : a.length % 2 = 0) : sm (a ++ b) = oc (sm a + sm b) := by
  have h1 := (raw_bd a ha).1
  have h2 := (raw_bd b hb).1
  unfold sm
  rw [raw_app a b h, oc_oc h1 (oc_bd h2).1, Int.add_comm (raw a), Int.add_comm (raw a), oc_oc h2 h1]
theorem sm_swap (a b : List Int) (ha : a.length % 2 = 0) (hb : b.length % 2 = 0) : sm (a ++ b) = sm (b ++ a) := by
  unfold sm
  rw [raw_app a b ha, raw_app b a hb, Int.add_comm]
theorem sm_bd (a : List Int) (ha : Bs a) : 0 ≤ sm a ∧ sm a ≤ 65535 := oc_bd (raw_bd a ha).1
end Go.Proofs.Ytllaojnnackhhaa
