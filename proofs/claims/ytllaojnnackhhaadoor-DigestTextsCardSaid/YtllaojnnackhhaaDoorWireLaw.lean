/-
  The plain law of the Internet checksum: one's complement sums over lists of bytes. No program is imported.
-/
import Derived.Test.YtllaojnnackhhaaDoorBase
namespace Go.Proofs.YtllaojnnackhhaaDoor
set_option linter.unusedVariables false
set_option linter.unusedSimpArgs false

/-- the one's complement sum of a sum -/
def oc (n : Int) : Int := if n = 0 then 0 else (n - 1) % 65535 + 1
theorem oc_small {n : Int} (h0 : 0 ≤ n) (h1 : n ≤ 65535) : oc n = n := by
  unfold oc; split <;> omega
theorem oc_bd {n : Int} (h0 : 0 ≤ n) : 0 ≤ oc n ∧ oc n ≤ 65535 := by
  unfold oc; split <;> omega
theorem oc_step {n : Int} (h : 65535 < n) : oc (n / 65536 + n % 65536) = oc n := by
  unfold oc
  rw [if_neg (by omega), if_neg (by omega)]; omega
theorem oc_oc {a b : Int} (ha : 0 ≤ a) (hb : 0 ≤ b) : oc (oc a + b) = oc (a + b) := by
  unfold oc
  split <;> split <;> (try split) <;> omega

/-- the sum of the numbers that bytes are, in pairs: a byte at an even place counts 256 times -/
def raw : List Int → Int
  | [] => 0
  | [x] => x * 256
  | x :: y :: r => x * 256 + y + raw r
def sm (l : List Int) : Int := oc (raw l)
theorem raw_bd : ∀ (l : List Int), Bs l → 0 ≤ raw l ∧ raw l ≤ 65280 * l.length
  | [], _ => by simp [raw]
  | [x], h => by have := h x (by simp); simp [raw]; omega
  | x :: y :: r, h => by
    have hx := h x (by simp)
    have hy := h y (by simp)
    have := raw_bd r (fun z hz => h z (by simp [hz]))
    simp only [raw, List.length_cons]
    omega
theorem raw_snoc : ∀ (l : List Int) (x : Int), raw (l ++ [x]) = raw l + (if l.length % 2 = 0 then x * 256 else x)
  | [], x => by simp [raw]
  | [y], x => by simp [raw]
  | y :: z :: r, x => by
    have := raw_snoc r x
    simp only [List.cons_append, raw, List.length_cons, this]
    have e : (r.length + 1 + 1) % 2 = r.length % 2 := by omega
    simp only [e]; omega
theorem raw_take (l : List Int) (k : Nat) (x : Int) (h : l[k]? = some x) : raw (l.take (k + 1)) = raw (l.take k) + (if k % 2 = 0 then x * 256 else x) := by
  have hk : k < l.length := by
    rcases Nat.lt_or_ge k l.length with h1 | h1
    · exact h1
    · rw [List.getElem?_eq_none h1] at h; cases h
  rw [List.take_add_one, h]
  have := raw_snoc (l.take k) x
  rw [show (l.take k).length = k from by simp; omega] at this
  simpa using this
theorem raw_app : ∀ (a b : List Int), a.length % 2 = 0 → raw (a ++ b) = raw a + raw b
  | [], b, _ => by simp [raw]
  | [x], b, h => by simp at h
  | x :: y :: r, b, h => by
    have := raw_app r b (by simp only [List.length_cons] at h; omega)
    simp only [List.cons_append, raw, this]; omega
theorem sm_app (a b : List Int) (ha : Bs a) (hb : Bs b) (h : a.length % 2 = 0) : sm (a ++ b) = oc (sm a + sm b) := by
  have h1 := (raw_bd a ha).1
  have h2 := (raw_bd b hb).1
  unfold sm
  rw [raw_app a b h, oc_oc h1 (oc_bd h2).1, Int.add_comm (raw a), Int.add_comm (raw a), oc_oc h2 h1]
theorem sm_swap (a b : List Int) (ha : a.length % 2 = 0) (hb : b.length % 2 = 0) : sm (a ++ b) = sm (b ++ a) := by
  unfold sm
  rw [raw_app a b ha, raw_app b a hb, Int.add_comm]
theorem sm_bd (a : List Int) (ha : Bs a) : 0 ≤ sm a ∧ sm a ≤ 65535 := oc_bd (raw_bd a ha).1

/-- the number that bytes are, the most significant one first -/
def be (l : List Int) : Int := l.foldl (fun a x => a * 256 + x) 0
theorem be_snoc (l : List Int) (x : Int) : be (l ++ [x]) = be l * 256 + x := by simp [be]
theorem be_take (l : List Int) (k : Nat) (x : Int) (h : l[k]? = some x) : be (l.take (k + 1)) = be (l.take k) * 256 + x := by
  rw [List.take_add_one, h]; exact be_snoc _ _
theorem be_bd_from : ∀ (l : List Int) (a : Int) (m : Nat), Bs l → 0 ≤ a → a < 256 ^ m → 0 ≤ l.foldl (fun a x => a * 256 + x) a ∧ l.foldl (fun a x => a * 256 + x) a < 256 ^ (m + l.length)
  | [], a, m, _, h0, h1 => by simpa using ⟨h0, h1⟩
  | x :: r, a, m, h, h0, h1 => by
    have hx := h x (by simp)
    have := be_bd_from r (a * 256 + x) (m + 1) (fun z hz => h z (by simp [hz])) (by omega) (by rw [Int.pow_succ]; omega)
    rw [show m + (x :: r).length = m + 1 + r.length from by simp; omega]
    exact this
theorem be_bd (l : List Int) (h : Bs l) : 0 ≤ be l ∧ be l < 256 ^ l.length := by
  have := be_bd_from l 0 0 h (by omega) (by omega)
  simpa [be] using this
theorem be_bd7 (l : List Int) (h : Bs l) (hl : l.length ≤ 6) : 0 ≤ be l ∧ be l ≤ 281474976710655 := by
  have h1 := be_bd l h
  rcases (by omega : l.length = 0 ∨ l.length = 1 ∨ l.length = 2 ∨ l.length = 3 ∨ l.length = 4 ∨ l.length = 5 ∨ l.length = 6) with e | e | e | e | e | e | e
  all_goals (rw [e] at h1; simp only [Int.pow_succ, Int.pow_zero] at h1; omega)
/-- the bytes of a number, the most significant one first -/
def enc (x : Int) : Nat → List Int
  | 0 => []
  | k + 1 => (x / 256 ^ k % 256) :: enc x k
theorem enc_len (x : Int) : ∀ k, (enc x k).length = k
  | 0 => rfl
  | k + 1 => by simp [enc, enc_len x k]
theorem enc_bs (x : Int) : ∀ k, Bs (enc x k)
  | 0 => Bs.nil
  | k + 1 => by
    intro y hy
    simp only [enc, List.mem_cons] at hy
    rcases hy with rfl | hy
    · omega
    · exact enc_bs x k y hy
theorem enc_at (x : Int) : ∀ k i, i < k → (enc x k)[i]? = some (x / 256 ^ (k - 1 - i) % 256)
  | 0, i, h => by omega
  | k + 1, 0, _ => by simp [enc]
  | k + 1, i + 1, h => by
    have := enc_at x k i (by omega)
    simp only [enc, List.getElem?_cons_succ, this]
    rw [show k + 1 - 1 - (i + 1) = k - 1 - i from by omega]
theorem enc_take (x : Int) (k i : Nat) (h : i < k) : (enc x k).take (i + 1) = (enc x k).take i ++ [x / 256 ^ (k - 1 - i) % 256] := by
  rw [List.take_add_one, enc_at x k i h]; rfl
theorem pow_256 (k : Nat) : (2 : Int) ^ (8 * k) = 256 ^ k := by rw [Int.pow_mul]; rfl
theorem pow_256_le (k : Nat) (h : k ≤ 7) : (1 : Int) ≤ 256 ^ k ∧ (256 : Int) ^ k ≤ 72057594037927936 := by
  rcases (by omega : k = 0 ∨ k = 1 ∨ k = 2 ∨ k = 3 ∨ k = 4 ∨ k = 5 ∨ k = 6 ∨ k = 7) with e | e | e | e | e | e | e | e
  all_goals (subst e; decide)
theorem raw_pos : ∀ (l : List Int), Bs l → ∀ (i : Nat) (v : Int), l[i]? = some v → v ≠ 0 → 0 < raw l
  | [], _, i, v, h, _ => by simp at h
  | [x], hb, i, v, h, h0 => by
    have hx := hb x (by simp)
    match i, h with
    | 0, h => simp at h; subst h; simp [raw]; omega
    | i + 1, h => simp at h
  | x :: y :: r, hb, i, v, h, h0 => by
    have hx := hb x (by simp)
    have hy := hb y (by simp)
    have hr : Bs r := fun z hz => hb z (by simp [hz])
    have h1 := (raw_bd r hr).1
    match i, h with
    | 0, h => simp at h; subst h; simp only [raw]; omega
    | 1, h => simp at h; subst h; simp only [raw]; omega
    | i + 2, h =>
      have := raw_pos r hr i v (by simpa using h) h0
      simp only [raw]; omega
theorem split_two (L : List Int) (k : Nat) (h : k + 1 < L.length) : ∃ p x y r, L = p ++ x :: y :: r ∧ p.length = k := by
  refine ⟨L.take k, L[k], L[k + 1], L.drop (k + 2), ?_, by simp; omega⟩
  rw [← List.drop_eq_getElem_cons (by omega), ← List.drop_eq_getElem_cons (by omega), List.take_append_drop]
theorem upd_law (L : List Int) (hb : Bs L) (hp : 0 < raw L) (k : Nat) (hk : k + 1 < L.length) (hk2 : k % 2 = 0) (x : Int) (hx0 : 0 ≤ x) (hx1 : x ≤ 65535)
    (i : Nat) (v : Int) (hv : ((L.set k (x / 256)).set (k + 1) (x % 256))[i]? = some v) (hv0 : v ≠ 0) :
    oc (65535 - (65535 - sm L) + 65535 - be ((L.drop k).take 2) + x) = sm ((L.set k (x / 256)).set (k + 1) (x % 256)) ∧ Bs ((L.set k (x / 256)).set (k + 1) (x % 256)) ∧ 0 ≤ be ((L.drop k).take 2) ∧ be ((L.drop k).take 2) ≤ 65535 := by
  obtain ⟨p, a, b, r, rfl, hpk⟩ := split_two L k hk
  subst hpk
  have e1 : (((p ++ a :: b :: r).set p.length (x / 256)).set (p.length + 1) (x % 256)) = p ++ x / 256 :: x % 256 :: r := by
    rw [List.set_append_right _ _ (by omega), Nat.sub_self, List.set_append_right _ _ (by omega), Nat.add_sub_cancel_left]
    rfl
  have e2 : ((p ++ a :: b :: r).drop p.length).take 2 = [a, b] := by simp
  rw [e1] at hv ⊢
  rw [e2]
  have hbp : Bs p := fun z hz => hb z (by simp [hz])
  have hba := hb a (by simp)
  have hbb := hb b (by simp)
  have hbr : Bs r := fun z hz => hb z (by simp [hz])
  have hbx : Bs (p ++ x / 256 :: x % 256 :: r) := by
    intro z hz
    simp only [List.mem_append, List.mem_cons] at hz
    rcases hz with hz | rfl | rfl | hz
    · exact hbp z hz
    · omega
    · omega
    · exact hbr z hz
  refine ⟨?_, hbx, by simp [be]; omega, by simp [be]; omega⟩
  have r1 := raw_app p (a :: b :: r) hk2
  have r2 := raw_app p (x / 256 :: x % 256 :: r) hk2
  simp only [raw] at r1 r2
  have q0 := raw_pos _ hbx i v hv hv0
  have hbe : be [a, b] = a * 256 + b := by simp [be]
  rw [hbe]
  unfold sm oc
  rw [if_neg (by omega : ¬ raw (p ++ a :: b :: r) = 0), if_neg (by omega : ¬ raw (p ++ x / 256 :: x % 256 :: r) = 0), if_neg (by omega)]
  omega
end Go.Proofs.YtllaojnnackhhaaDoor
