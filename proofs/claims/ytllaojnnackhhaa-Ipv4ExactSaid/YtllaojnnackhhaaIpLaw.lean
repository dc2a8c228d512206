/-
  The plain law of IPv4 headers: what Check, Encode, Peek, Decode and Lower answer. No program is walked.
-/
import Derived.Test.YtllaojnnackhhaaWireLaw
import Derived.Test.YtllaojnnackhhaaWireAny
namespace Go.Proofs.Ytllaojnnackhhaa
set_option linter.unusedVariables false
set_option linter.unusedSimpArgs false

structure Hd where
  tos : Int
  id : Int
  ttl : Int
  proto : Int
  keep : Bool
  src : Int
  dst : Int
def Hd.zero : Hd := ⟨0, 0, 0, 0, false, 0, 0⟩
/-- the addresses are numbers of 32 bits -/
def Hd.Ok (h : Hd) : Prop := 0 ≤ h.src ∧ h.src ≤ 4294967295 ∧ 0 ≤ h.dst ∧ h.dst ≤ 4294967295
def octF (n : Int) : Bool := decide (0 ≤ n ∧ n < 256)
def wordF (n : Int) : Bool := decide (0 ≤ n ∧ n < 65536)
def checkB (h : Hd) : Bool := octF h.tos && (octF h.ttl && (octF h.proto && wordF h.id))
def checkE (h : Hd) : Int := if checkB h then 0 else 1
def flagsF (h : Hd) : Int := if h.keep then 16384 else 0
/-- the ten bytes ahead of the checksum -/
def headB (h : Hd) (len : Int) : List Int := enc 69 1 ++ enc h.tos 1 ++ enc len 2 ++ enc h.id 2 ++ enc (flagsF h) 2 ++ enc h.ttl 1 ++ enc h.proto 1
def tailB (h : Hd) : List Int := enc h.src 4 ++ enc h.dst 4
def sumF (h : Hd) (len : Int) : Int := 65535 - sm (headB h len ++ enc 0 2 ++ tailB h)
def hdB (h : Hd) (len : Int) : List Int := headB h len ++ enc (sumF h len) 2 ++ tailB h
theorem headB_len (h : Hd) (len : Int) : (headB h len).length = 10 := by simp [headB, enc_len]
theorem tailB_len (h : Hd) : (tailB h).length = 8 := by simp [tailB, enc_len]
theorem hdB_len (h : Hd) (len : Int) : (hdB h len).length = 20 := by simp [hdB, enc_len, headB_len, tailB_len]
theorem headB_bs (h : Hd) (len : Int) : Bs (headB h len) := ((((((enc_bs _ _).app (enc_bs _ _)).app (enc_bs _ _)).app (enc_bs _ _)).app (enc_bs _ _)).app (enc_bs _ _)).app (enc_bs _ _)
theorem tailB_bs (h : Hd) : Bs (tailB h) := (enc_bs _ _).app (enc_bs _ _)
theorem hdB_bs (h : Hd) (len : Int) : Bs (hdB h len) := ((headB_bs h len).app (enc_bs _ _)).app (tailB_bs h)
theorem sumF_bd (h : Hd) (len : Int) : 0 ≤ sumF h len ∧ sumF h len ≤ 65535 := by
  have := sm_bd (headB h len ++ enc 0 2 ++ tailB h) (((headB_bs h len).app (enc_bs _ _)).app (tailB_bs h))
  unfold sumF; omega
/-- what Encode answers of a header and data -/
def encE (h : Hd) (d : List Int) : Int := if checkB h then (if (1480 : Int) < d.length then 5 else 0) else 1
def encL (h : Hd) (d : List Int) : List Int := if encE h d = 0 then hdB h (20 + d.length) ++ d else []
theorem enc_two (s : Int) (h0 : 0 ≤ s) (h1 : s ≤ 65535) : enc s 2 = [s / 256, s % 256] := by
  simp only [enc, List.cons.injEq, and_true]
  have e : (256 : Int) ^ 1 = 256 := rfl
  have e0 : (256 : Int) ^ 0 = 1 := rfl
  rw [e, e0]; omega
/-- storing the checksum's two bytes into the header whose checksum is 0 -/
theorem set_sum (h : Hd) (len : Int) (L : List Int) (hL : headB h len ++ enc 0 2 ++ tailB h = L) : (L.set 10 ((65535 - sm L) / 256)).set 11 ((65535 - sm L) % 256) = hdB h len := by
  have hs : 65535 - sm L = sumF h len := by rw [← hL]; rfl
  have hb := sumF_bd h len
  rw [hs]
  unfold hdB
  rw [enc_two _ hb.1 hb.2, ← hL]
  have h10 := headB_len h len
  have e0 : enc 0 2 = [0, 0] := by simp [enc]
  rw [e0, List.append_assoc, List.append_assoc, List.set_append_right _ _ (by omega), h10, List.set_append_right _ _ (by omega), h10]
  rfl

/-! ### Peek -/
def pkH (l : List Int) : Hd := ⟨getV l 1 1, getV l 4 2, getV l 8 1, getV l 9 1, getV l 6 2 == 16384, getV l 12 4, getV l 16 4⟩
def formB (l : List Int) : Bool := decide (getV l 0 1 = 69 ∧ (getV l 6 2 = 0 ∨ getV l 6 2 = 16384) ∧ 20 ≤ getV l 2 2)
def sumB (l : List Int) : Bool := decide (hdB (pkH l) (getV l 2 2) = l)
def peekE (b : List Int) : Int := if b.length < 20 then 3 else if formB (b.take 20) then (if sumB (b.take 20) then 0 else 4) else 2
def peekH (b : List Int) : Hd := if peekE b = 0 then pkH (b.take 20) else Hd.zero
def peekN (b : List Int) : Int := if peekE b = 0 then getV (b.take 20) 2 2 else 0
def zeroed (l : List Int) : List Int := (l.set 10 0).set 11 0
theorem list20 (l : List Int) (h : l.length = 20) : ∃ a0 a1 a2 a3 a4 a5 a6 a7 a8 a9 b0 b1 b2 b3 b4 b5 b6 b7 b8 b9, l = [a0, a1, a2, a3, a4, a5, a6, a7, a8, a9, b0, b1, b2, b3, b4, b5, b6, b7, b8, b9] := by
  match l, h with
  | [a0, a1, a2, a3, a4, a5, a6, a7, a8, a9, b0, b1, b2, b3, b4, b5, b6, b7, b8, b9], _ => exact ⟨a0, a1, a2, a3, a4, a5, a6, a7, a8, a9, b0, b1, b2, b3, b4, b5, b6, b7, b8, b9, rfl⟩
theorem enc_one (x : Int) (h0 : 0 ≤ x) (h1 : x ≤ 255) : enc x 1 = [x] := by
  simp only [enc, List.cons.injEq, and_true]
  rw [show (256 : Int) ^ 0 = 1 from rfl]; omega
theorem enc_be2 (x y : Int) (hx : 0 ≤ x ∧ x ≤ 255) (hy : 0 ≤ y ∧ y ≤ 255) : enc (x * 256 + y) 2 = [x, y] := by
  rw [enc_two _ (by omega) (by omega)]
  simp only [List.cons.injEq, and_true]; omega
theorem enc_be4 (x y z u : Int) (hx : 0 ≤ x ∧ x ≤ 255) (hy : 0 ≤ y ∧ y ≤ 255) (hz : 0 ≤ z ∧ z ≤ 255) (hu : 0 ≤ u ∧ u ≤ 255) : enc (((x * 256 + y) * 256 + z) * 256 + u) 4 = [x, y, z, u] := by
  simp only [enc, List.cons.injEq, and_true]
  rw [show (256 : Int) ^ 3 = 16777216 from rfl, show (256 : Int) ^ 2 = 65536 from rfl, show (256 : Int) ^ 1 = 256 from rfl, show (256 : Int) ^ 0 = 1 from rfl]; omega
theorem getV_lit (l : List Int) (p k : Nat) (hk : 1 ≤ k) (hk7 : k ≤ 7) (h : p + k ≤ l.length) : getV l (p : Int) (k : Int) = be ((l.drop p).take k) := by
  unfold getV
  rw [if_neg (by omega), if_neg (by omega)]; rfl
theorem headB_ten (a0 a1 a2 a3 a4 a5 a6 a7 a8 a9 src dst : Int) (p1 : 0 ≤ a1 ∧ a1 ≤ 255) (p2 : 0 ≤ a2 ∧ a2 ≤ 255) (p3 : 0 ≤ a3 ∧ a3 ≤ 255) (p4 : 0 ≤ a4 ∧ a4 ≤ 255) (p5 : 0 ≤ a5 ∧ a5 ≤ 255) (p6 : 0 ≤ a6 ∧ a6 ≤ 255) (p7 : 0 ≤ a7 ∧ a7 ≤ 255) (p8 : 0 ≤ a8 ∧ a8 ≤ 255) (p9 : 0 ≤ a9 ∧ a9 ≤ 255)
    (h0 : a0 = 69) (hf : a6 * 256 + a7 = 0 ∨ a6 * 256 + a7 = 16384) : headB ⟨a1, a4 * 256 + a5, a8, a9, a6 * 256 + a7 == 16384, src, dst⟩ (a2 * 256 + a3) = [a0, a1, a2, a3, a4, a5, a6, a7, a8, a9] := by
  have hfl : flagsF ⟨a1, a4 * 256 + a5, a8, a9, a6 * 256 + a7 == 16384, src, dst⟩ = a6 * 256 + a7 := by
    unfold flagsF
    rcases hf with e | e <;> simp [e]
  unfold headB
  rw [hfl, enc_one a1 p1.1 p1.2, enc_be2 a2 a3 p2 p3, enc_be2 a4 a5 p4 p5, enc_be2 a6 a7 p6 p7, enc_one a8 p8.1 p8.2, enc_one a9 p9.1 p9.2, enc_one 69 (by omega) (by omega), h0]
  rfl
/-- ten bytes of a header that has the form are those that are encoded from what was read -/
theorem headB_pkH (l : List Int) (h : l.length = 20) (hb : Bs l) (hf : formB l = true) : headB (pkH l) (getV l 2 2) ++ enc 0 2 ++ tailB (pkH l) = zeroed l ∧ ∃ x y, (0 ≤ x ∧ x ≤ 255) ∧ (0 ≤ y ∧ y ≤ 255) ∧ getV l 10 2 = x * 256 + y ∧ headB (pkH l) (getV l 2 2) ++ [x, y] ++ tailB (pkH l) = l := by
  obtain ⟨a0, a1, a2, a3, a4, a5, a6, a7, a8, a9, b0, b1, b2, b3, b4, b5, b6, b7, b8, b9, rfl⟩ := list20 l h
  have g0 : getV [a0, a1, a2, a3, a4, a5, a6, a7, a8, a9, b0, b1, b2, b3, b4, b5, b6, b7, b8, b9] 0 1 = a0 := by
    have := getV_lit [a0, a1, a2, a3, a4, a5, a6, a7, a8, a9, b0, b1, b2, b3, b4, b5, b6, b7, b8, b9] 0 1 (by omega) (by omega) (by simp)
    simp only [List.drop_succ_cons, List.drop_zero, List.take_succ_cons, List.take_zero, be, List.foldl_cons, List.foldl_nil, Int.zero_mul, Int.zero_add] at this
    exact this
  have g1 : getV [a0, a1, a2, a3, a4, a5, a6, a7, a8, a9, b0, b1, b2, b3, b4, b5, b6, b7, b8, b9] 1 1 = a1 := by
    have := getV_lit [a0, a1, a2, a3, a4, a5, a6, a7, a8, a9, b0, b1, b2, b3, b4, b5, b6, b7, b8, b9] 1 1 (by omega) (by omega) (by simp)
    simp only [List.drop_succ_cons, List.drop_zero, List.take_succ_cons, List.take_zero, be, List.foldl_cons, List.foldl_nil, Int.zero_mul, Int.zero_add] at this
    exact this
  have g2 : getV [a0, a1, a2, a3, a4, a5, a6, a7, a8, a9, b0, b1, b2, b3, b4, b5, b6, b7, b8, b9] 2 2 = a2 * 256 + a3 := by
    have := getV_lit [a0, a1, a2, a3, a4, a5, a6, a7, a8, a9, b0, b1, b2, b3, b4, b5, b6, b7, b8, b9] 2 2 (by omega) (by omega) (by simp)
    simp only [List.drop_succ_cons, List.drop_zero, List.take_succ_cons, List.take_zero, be, List.foldl_cons, List.foldl_nil, Int.zero_mul, Int.zero_add] at this
    exact this
  have g4 : getV [a0, a1, a2, a3, a4, a5, a6, a7, a8, a9, b0, b1, b2, b3, b4, b5, b6, b7, b8, b9] 4 2 = a4 * 256 + a5 := by
    have := getV_lit [a0, a1, a2, a3, a4, a5, a6, a7, a8, a9, b0, b1, b2, b3, b4, b5, b6, b7, b8, b9] 4 2 (by omega) (by omega) (by simp)
    simp only [List.drop_succ_cons, List.drop_zero, List.take_succ_cons, List.take_zero, be, List.foldl_cons, List.foldl_nil, Int.zero_mul, Int.zero_add] at this
    exact this
  have g6 : getV [a0, a1, a2, a3, a4, a5, a6, a7, a8, a9, b0, b1, b2, b3, b4, b5, b6, b7, b8, b9] 6 2 = a6 * 256 + a7 := by
    have := getV_lit [a0, a1, a2, a3, a4, a5, a6, a7, a8, a9, b0, b1, b2, b3, b4, b5, b6, b7, b8, b9] 6 2 (by omega) (by omega) (by simp)
    simp only [List.drop_succ_cons, List.drop_zero, List.take_succ_cons, List.take_zero, be, List.foldl_cons, List.foldl_nil, Int.zero_mul, Int.zero_add] at this
    exact this
  have g8 : getV [a0, a1, a2, a3, a4, a5, a6, a7, a8, a9, b0, b1, b2, b3, b4, b5, b6, b7, b8, b9] 8 1 = a8 := by
    have := getV_lit [a0, a1, a2, a3, a4, a5, a6, a7, a8, a9, b0, b1, b2, b3, b4, b5, b6, b7, b8, b9] 8 1 (by omega) (by omega) (by simp)
    simp only [List.drop_succ_cons, List.drop_zero, List.take_succ_cons, List.take_zero, be, List.foldl_cons, List.foldl_nil, Int.zero_mul, Int.zero_add] at this
    exact this
  have g9 : getV [a0, a1, a2, a3, a4, a5, a6, a7, a8, a9, b0, b1, b2, b3, b4, b5, b6, b7, b8, b9] 9 1 = a9 := by
    have := getV_lit [a0, a1, a2, a3, a4, a5, a6, a7, a8, a9, b0, b1, b2, b3, b4, b5, b6, b7, b8, b9] 9 1 (by omega) (by omega) (by simp)
    simp only [List.drop_succ_cons, List.drop_zero, List.take_succ_cons, List.take_zero, be, List.foldl_cons, List.foldl_nil, Int.zero_mul, Int.zero_add] at this
    exact this
  have g10 : getV [a0, a1, a2, a3, a4, a5, a6, a7, a8, a9, b0, b1, b2, b3, b4, b5, b6, b7, b8, b9] 10 2 = b0 * 256 + b1 := by
    have := getV_lit [a0, a1, a2, a3, a4, a5, a6, a7, a8, a9, b0, b1, b2, b3, b4, b5, b6, b7, b8, b9] 10 2 (by omega) (by omega) (by simp)
    simp only [List.drop_succ_cons, List.drop_zero, List.take_succ_cons, List.take_zero, be, List.foldl_cons, List.foldl_nil, Int.zero_mul, Int.zero_add] at this
    exact this
  have g12 : getV [a0, a1, a2, a3, a4, a5, a6, a7, a8, a9, b0, b1, b2, b3, b4, b5, b6, b7, b8, b9] 12 4 = ((b2 * 256 + b3) * 256 + b4) * 256 + b5 := by
    have := getV_lit [a0, a1, a2, a3, a4, a5, a6, a7, a8, a9, b0, b1, b2, b3, b4, b5, b6, b7, b8, b9] 12 4 (by omega) (by omega) (by simp)
    simp only [List.drop_succ_cons, List.drop_zero, List.take_succ_cons, List.take_zero, be, List.foldl_cons, List.foldl_nil, Int.zero_mul, Int.zero_add] at this
    exact this
  have g16 : getV [a0, a1, a2, a3, a4, a5, a6, a7, a8, a9, b0, b1, b2, b3, b4, b5, b6, b7, b8, b9] 16 4 = ((b6 * 256 + b7) * 256 + b8) * 256 + b9 := by
    have := getV_lit [a0, a1, a2, a3, a4, a5, a6, a7, a8, a9, b0, b1, b2, b3, b4, b5, b6, b7, b8, b9] 16 4 (by omega) (by omega) (by simp)
    simp only [List.drop_succ_cons, List.drop_zero, List.take_succ_cons, List.take_zero, be, List.foldl_cons, List.foldl_nil, Int.zero_mul, Int.zero_add] at this
    exact this
  have hx : ∀ x ∈ [a0, a1, a2, a3, a4, a5, a6, a7, a8, a9, b0, b1, b2, b3, b4, b5, b6, b7, b8, b9], 0 ≤ x ∧ x ≤ 255 := hb
  simp only [List.mem_cons, List.not_mem_nil, or_false, forall_eq_or_imp, forall_eq] at hx
  obtain ⟨p0, p1, p2, p3, p4, p5, p6, p7, p8, p9, q0, q1, q2, q3, q4, q5, q6, q7, q8, q9⟩ := hx
  unfold formB at hf
  have hf := of_decide_eq_true hf
  rw [g0, g2, g6] at hf
  have hp : pkH [a0, a1, a2, a3, a4, a5, a6, a7, a8, a9, b0, b1, b2, b3, b4, b5, b6, b7, b8, b9] = ⟨a1, a4 * 256 + a5, a8, a9, a6 * 256 + a7 == 16384, ((b2 * 256 + b3) * 256 + b4) * 256 + b5, ((b6 * 256 + b7) * 256 + b8) * 256 + b9⟩ := by
    unfold pkH
    rw [g1, g4, g6, g8, g9, g12, g16]
  have ht : tailB (pkH [a0, a1, a2, a3, a4, a5, a6, a7, a8, a9, b0, b1, b2, b3, b4, b5, b6, b7, b8, b9]) = [b2, b3, b4, b5, b6, b7, b8, b9] := by
    rw [hp]
    unfold tailB
    rw [enc_be4 b2 b3 b4 b5 q2 q3 q4 q5, enc_be4 b6 b7 b8 b9 q6 q7 q8 q9]
    rfl
  have hh : headB (pkH [a0, a1, a2, a3, a4, a5, a6, a7, a8, a9, b0, b1, b2, b3, b4, b5, b6, b7, b8, b9]) (getV [a0, a1, a2, a3, a4, a5, a6, a7, a8, a9, b0, b1, b2, b3, b4, b5, b6, b7, b8, b9] 2 2) = [a0, a1, a2, a3, a4, a5, a6, a7, a8, a9] := by
    rw [hp, g2]
    exact headB_ten a0 a1 a2 a3 a4 a5 a6 a7 a8 a9 _ _ p1 p2 p3 p4 p5 p6 p7 p8 p9 hf.1 hf.2.1
  rw [ht, hh, g10]
  refine ⟨?_, b0, b1, q0, q1, rfl, rfl⟩
  have e0 : enc 0 2 = [0, 0] := by simp [enc]
  rw [e0]
  rfl
/-- the checksum is right exactly if the header is the one that is encoded from what was read -/
theorem sum_iff (l : List Int) (h : l.length = 20) (hb : Bs l) (hf : formB l = true) : sumB l = (65535 - sm (zeroed l) == getV l 10 2) := by
  obtain ⟨h1, x, y, hx, hy, h2, h3⟩ := headB_pkH l h hb hf
  have hs : sumF (pkH l) (getV l 2 2) = 65535 - sm (zeroed l) := by unfold sumF; rw [h1]
  have hbd := sumF_bd (pkH l) (getV l 2 2)
  unfold sumB hdB
  rw [← hs, h2]
  generalize sumF (pkH l) (getV l 2 2) = s at *
  rw [enc_two s hbd.1 hbd.2, Bool.eq_iff_iff]
  simp only [decide_eq_true_eq, beq_iff_eq]
  constructor
  · intro e
    have := List.append_cancel_right (e.trans h3.symm)
    have := List.append_cancel_left this
    simp only [List.cons.injEq, and_true] at this
    omega
  · intro e
    have e1 : s / 256 = x := by omega
    have e2 : s % 256 = y := by omega
    rw [e1, e2]; exact h3
end Go.Proofs.Ytllaojnnackhhaa
