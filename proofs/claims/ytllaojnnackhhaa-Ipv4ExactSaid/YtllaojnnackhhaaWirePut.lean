/-
  The walks of Put: the program's and the reference's, and slices.Clone of bytes.
-/
import Derived.Test.YtllaojnnackhhaaWireOrd
import Derived.Lib.SliceRun
namespace Go.Proofs.Ytllaojnnackhhaa
open Go.RowKit
set_option linter.unusedVariables false
set_option linter.unusedSimpArgs false

/-- a result that is a slice of bytes of the call's own -/
def Made (l : List Int) (w : World) (e : Ending) (w' : World) : Prop :=
  ∃ A m c, e = .returned (.slice A m c) ∧ m ≤ c ∧ c ≤ maxLen ∧ w'.ownsRow w.heap.size 5 1 (.slice A m c) m (bv l) ∧ Below w.heap.size w w'

theorem clone_nil (w : World) (c : Nat) : Calls Try.prog 44 #[.slice none 0 c] w (Made [] w) := by
  have hnil := fun (a : Option Addr) (x y x' y' : Nat) => Lib.run_eql_slice_nil (P := Try.prog) w 22 5 a x y x' y' Try.underlying22
  go_enter Try.func44, Try.ntmps44
  go_wp2_with fail
  go_ret
  exact ⟨none, 0, 0, rfl, Nat.le_refl _, Nat.zero_le _, World.ownsRow_nil _ _ _ _, Below.refl _ _⟩
theorem clone_some (ad : Addr) (n c : Nat) (l : List Int) (w : World) (hl : Byt w w.heap.size (some ad) n l) (hn : n ≤ 100000000) :
    Calls Try.prog 44 #[.slice (some ad) n c] w (Made l w) := by
  have hll := Lib.hid hl.len
  have hnil := fun (a : Option Addr) (x y x' y' : Nat) => Lib.run_eql_slice_nil (P := Try.prog) w 22 5 a x y x' y' Try.underlying22
  go_enter Try.func44, Try.ntmps44
  go_wp2_with (at_builtin
               refine wpList_app rfl (.tmp 5) (.tmp 6) _ rfl elU8 w.heap.size (some ⟨w.heap.size, 0, none⟩) 0 0 [] rfl (World.ownsRow_lit w #[] 0 (Nat.le_refl _) (by simp [maxLen]) rfl) _ _ n c (bv l) rfl ((hl.alloc (Nat.le_refl _) _).1) (bv_one _) (by omega) (by simp) n (by omega) ?_
               intro A' c' w2 h1 h2 hown hb hg)
  go_ret
  exact ⟨A', n, c', rfl, h1, h2, by simpa using hown, ((Below.refl _ _).alloc (Nat.le_refl _) _).trans hb⟩
theorem clone_any (A : Option Addr) (n c : Nat) (l : List Int) (w : World) (hl : Byt w w.heap.size A n l) (hn : n ≤ 100000000) :
    Calls Try.prog 44 #[.slice A n c] w (Made l w) := by
  rcases A with _ | ad
  · have h0 : n = 0 := by
      rcases Nat.eq_zero_or_pos n with h0 | h0
      · exact h0
      · obtain ⟨ad, h, _⟩ := hl.1.2 h0
        cases h
    subst h0
    obtain rfl : l = [] := List.eq_nil_of_length_eq_zero hl.len
    exact clone_nil w c
  · exact clone_some ad n c l w hl hn

/-- the result of Put: a slice of the call's own, and OK -/
def Put2 (l : List Int) (w : World) (e : Ending) (w' : World) : Prop :=
  ∃ A m c, e = .returned (.tuple #[.slice A m c, .int .i64 0]) ∧ m ≤ c ∧ c ≤ maxLen ∧ w'.ownsRow w.heap.size 5 1 (.slice A m c) m (bv l) ∧ Below w.heap.size w w'

theorem put_ok (A : Option Addr) (n c : Nat) (l : List Int) (w : World) (hl : Byt w w.heap.size A n l) (hn : n ≤ 100000000) (x : Int) (k : Nat) (hx0 : 0 ≤ x) (hk1 : 1 ≤ k) (hk7 : k ≤ 7) (hx1 : x < 256 ^ k) :
    Calls Try.prog 18 #[.slice A n c, .int .i64 x, .int .i64 k] w (Put2 (l ++ enc x k) w) := by
  have hll := Lib.hid hl.len
  obtain ⟨q0, q1⟩ := pow_256_le k hk7
  have HP : Hid (Bs l) := hl.2
  have hp : wrap64 ((2 : Int) ^ (8 * k)) = 256 ^ k := by rw [pow_256, IntWalk.wrap64_in _ ⟨by omega, by omega⟩]
  generalize (256 : Int) ^ k = pk at *
  go_enter Try.func18, Try.ntmps18
  go_wp2_with fail
  refine (clone_any _ _ _ _ _ hl hn).mono ?_
  rintro e w1 ⟨A1, m1, c1, rfl, hc1, hm1, hown1, hb1⟩
  obtain rfl : n = m1 := by have := hown1.1; rw [bv_len, hll.out] at this; omega
  go_wp2_with fail
  go_loopw [8, 9] (fun v s wr => ∃ (j : Nat) (A' : Option Addr) (c' : Nat), j ≤ k ∧ s = .int .i64 (8 * (j : Int) - 8) ∧ v = .slice A' (n + (k - j)) c' ∧ n + (k - j) ≤ c' ∧ c' ≤ maxLen ∧ wr.ownsRow w.heap.size 5 1 (.slice A' (n + (k - j)) c') (n + (k - j)) (bv (l ++ (enc x k).take (k - j))) ∧ Below w.heap.size w wr) (fun _ s _ => (intOf s + 8).toNat)
  case atStart => exact ⟨k, A1, c1, Nat.le_refl _, by go_num, by simp, by omega, hm1, by simpa using hown1, hb1⟩
  case round =>
    obtain ⟨j, A', c', hj, rfl, rfl, hc', hm', hown, hb⟩ := hrel
    by_cases hlt : 1 ≤ j
    · have hs : Hid ((enc x k).take (k - (j - 1)) = (enc x k).take (k - j) ++ [x / 2 ^ (8 * j - 8) % 256]) := by
        have := enc_take x k (k - j) (by omega)
        rw [show k - j + 1 = k - (j - 1) from by omega, show k - 1 - (k - j) = j - 1 from by omega, ← pow_256, show 8 * (j - 1) = 8 * j - 8 from by omega] at this
        exact this
      go_wp2_with (at_builtin
                   refine wpList_app rfl (.tmp 36) (.tmp 41) _ rfl elU8 w.heap.size A' (n + (k - j)) c' _ rfl (hown.alloc _) _ _ 1 1 [.int .u8 (x / 2 ^ (8 * j - 8) % 256)] rfl (reads_new wr 5 #[.int .u8 (x / 2 ^ (8 * j - 8) % 256)] 1 1 rfl) (by simp [Value.oneCell']) (by omega) (by have := hb.size; simp; omega) (n + (k - (j - 1))) (by omega) ?_
                   intro A2 c2 w2 g1 g2 hown2 hb2 hg2
                   have hb3 := (hb.alloc hb.size (.cells #[.int .u8 (x / 2 ^ (8 * j - 8) % 256)] 5)).trans hb2
                   clear hb2 hg2 hown)
      go_roundw
      case rel => exact ⟨j - 1, A2, c2, by omega, by go_num, rfl, g1, g2, by rw [hs.out, ← List.append_assoc, bv_app]; exact hown2, hb3⟩
      case measure => simp [intOf]; omega
    · obtain rfl : j = 0 := by omega
      have hlen : Hid ((l ++ enc x k).length = n + k) := by show _ = _; rw [List.length_append, enc_len, hll.out]
      have htk : Hid ((enc x k).take k = enc x k) := List.take_of_length_le (by rw [enc_len]; omega)
      go_wp2_with fail
      go_ret2
      exact ⟨A', _, c', rfl, hc', hm', by rw [← htk.out]; exact hown, hb⟩
theorem put_no (A : Option Addr) (n c : Nat) (w : World) (x k : Int) (h : k < 1 ∨ 7 < k ∨ x < 0) :
    Calls Try.prog 18 #[.slice A n c, .int .i64 x, .int .i64 k] w fun e w' => e = .returned (.tuple #[.slice none 0 0, .int .i64 1]) ∧ w = w' := by
  by_cases hk : k < 1
  · clear h
    go_enter Try.func18, Try.ntmps18
    go_wp2_with fail
    go_ret2
    exact ⟨rfl, rfl⟩
  · by_cases hk7 : 7 < k
    · clear h
      go_enter Try.func18, Try.ntmps18
      go_wp2_with fail
      go_ret2
      exact ⟨rfl, rfl⟩
    · have hx : x < 0 := by omega
      clear h
      go_enter Try.func18, Try.ntmps18
      go_wp2_with fail
      go_ret2
      exact ⟨rfl, rfl⟩
theorem put_big (A : Option Addr) (n c : Nat) (w : World) (x : Int) (k : Nat) (hx0 : 0 ≤ x) (hk1 : 1 ≤ k) (hk7 : k ≤ 7) (hx1 : 256 ^ k ≤ x) :
    Calls Try.prog 18 #[.slice A n c, .int .i64 x, .int .i64 k] w fun e w' => e = .returned (.tuple #[.slice none 0 0, .int .i64 1]) ∧ w = w' := by
  obtain ⟨q0, q1⟩ := pow_256_le k hk7
  have hp : wrap64 ((2 : Int) ^ (8 * k)) = 256 ^ k := by rw [pow_256, IntWalk.wrap64_in _ ⟨by omega, by omega⟩]
  generalize (256 : Int) ^ k = pk at *
  go_enter Try.func18, Try.ntmps18
  go_wp2_with fail
  go_ret2
  exact ⟨rfl, rfl⟩
end Go.Proofs.Ytllaojnnackhhaa
