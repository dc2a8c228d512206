/-
  The walk of wire.Get and wire.Update.
-/
import Derived.Test.YtllaojnnackhhaaWireSum
namespace Go.Proofs.Ytllaojnnackhhaa
open Go.RowKit
set_option linter.unusedVariables false
set_option linter.unusedSimpArgs false

theorem get_ok (A : Option Addr) (n c : Nat) (l : List Int) (w : World) (B : Nat) (hl : Byt w B A n l) (hn : n ≤ c) (hm : n ≤ 140737488355328) (p k : Int) (hp : 0 ≤ p) (hk : 1 ≤ k) (hk7 : k ≤ 7) (hpk : p + k ≤ n) :
    Calls Try.prog 12 #[.slice A n c, .int .i64 p, .int .i64 k] w fun e w' => e = .returned (.tuple #[.int .i64 (be ((l.drop p.toNat).take k.toNat)), .int .i64 0]) ∧ w = w' := by
  obtain ⟨p, rfl⟩ := Int.eq_ofNat_of_zero_le hp
  obtain ⟨k, rfl⟩ := Int.eq_ofNat_of_zero_le (a := k) (by omega)
  simp only [Int.toNat_natCast]
  have hq : Byt w B (if c = p then A else A.map (·.add p)) k ((l.drop p).take k) := (hl.cut (cap := c) (k := p) (by omega) hn).head (by omega)
  obtain ⟨ad, rfl, _, _⟩ := hl.1.2 (by omega)
  rw [if_neg (by omega)] at hq
  simp only [Option.map_some] at hq
  have hql := Lib.hid hq.len
  go_enter Try.func12, Try.ntmps12
  go_wp2
  go_loop [8, 36] (fun s i => ∃ j : Nat, j ≤ k ∧ i = .int .i64 j ∧ s = .int .i64 (be (((l.drop p).take k).take j))) (fun _ i => k - (intOf i).toNat)
  case atStart => exact ⟨0, Nat.zero_le _, rfl, rfl⟩
  case round =>
    obtain ⟨j, hj, rfl, rfl⟩ := hrel
    by_cases hlt : j < k
    · obtain ⟨hb0, hb1⟩ := be_bd7 (((l.drop p).take k).take j) (hq.2.take j) (by have := hql.out; simp only [List.length_take] at this ⊢; omega)
      obtain ⟨ad', x, hA, _, hx, hx0, hx1, hc⟩ := hq.at_ hlt
      injection hA with hA
      subst hA
      have hs := Lib.hid (be_take _ j x hx)
      have ho := or_256 _ x hb0 hb1 hx0 hx1
      clear hx
      go_wp2
      go_round
      case rel => exact ⟨j + 1, by omega, by go_num, by rw [hs.out]⟩
      case measure => simp [intOf]; omega
    · obtain rfl : j = k := by omega
      go_wp2
      go_ret2
      exact ⟨ret_two (vint (congrArg be (List.take_of_length_le (Nat.le_of_eq hql.out)))) rfl, rfl⟩

theorem get_short (A : Option Addr) (n c : Nat) (w : World) (hm : n ≤ 140737488355328) (p k : Int) (hp : 0 ≤ p) (hk : 1 ≤ k) (hk7 : k ≤ 7) (hpk : n < p + k) :
    Calls Try.prog 12 #[.slice A n c, .int .i64 p, .int .i64 k] w fun e w' => e = .returned (.tuple #[.int .i64 0, .int .i64 3]) ∧ w = w' := by
  go_enter Try.func12, Try.ntmps12
  go_wp2
  go_ret2
  exact ⟨rfl, rfl⟩
theorem get_range (A : Option Addr) (n c : Nat) (w : World) (p k : Int) (h : p < 0 ∨ k < 1 ∨ 7 < k) :
    Calls Try.prog 12 #[.slice A n c, .int .i64 p, .int .i64 k] w fun e w' => e = .returned (.tuple #[.int .i64 0, .int .i64 1]) ∧ w = w' := by
  by_cases hk : k < 1
  · clear h
    go_enter Try.func12, Try.ntmps12
    go_wp2
    go_ret2
    exact ⟨rfl, rfl⟩
  · by_cases hk7 : 7 < k
    · clear h
      go_enter Try.func12, Try.ntmps12
      go_wp2
      go_ret2
      exact ⟨rfl, rfl⟩
    · have hp : p < 0 := by omega
      clear h
      go_enter Try.func12, Try.ntmps12
      go_wp2
      go_ret2
      exact ⟨rfl, rfl⟩
theorem update_yes (a b c : Int) (w : World) (ha : 0 ≤ a) (ha2 : a ≤ 65535) (hb : 0 ≤ b) (hb2 : b ≤ 65535) (hc : 0 ≤ c) (hc2 : c ≤ 65535) :
    Calls Try.prog 14 #[.int .i64 a, .int .i64 b, .int .i64 c] w fun e w' => e = .returned (.int .i64 (65535 - oc (65535 - a + 65535 - b + c))) ∧ w = w' := by
  obtain ⟨hx, hy⟩ := oc_bd (n := 65535 - a + 65535 - b + c) (by omega)
  go_enter Try.func14, Try.ntmps14
  go_wp2_with (first
    | (go_at_call_of 43 a; refine (word_yes _ _ ha ha2).mono ?_; rintro e w' ⟨rfl, rfl⟩)
    | (go_at_call_of 43 b; refine (word_yes _ _ hb hb2).mono ?_; rintro e w' ⟨rfl, rfl⟩)
    | (go_at_call_of 43 c; refine (word_yes _ _ hc hc2).mono ?_; rintro e w' ⟨rfl, rfl⟩)
    | (go_at_call 42; refine (fold_any _ _ (by omega) (by omega)).mono ?_; rintro e w' ⟨rfl, rfl⟩))
  go_ret
  exact ⟨ret_int rfl, rfl⟩
theorem update_no (a b c : Int) (w : World) (h : ¬ (0 ≤ a ∧ a ≤ 65535 ∧ 0 ≤ b ∧ b ≤ 65535 ∧ 0 ≤ c ∧ c ≤ 65535)) :
    Calls Try.prog 14 #[.int .i64 a, .int .i64 b, .int .i64 c] w fun e w' => e = .returned (.int .i64 0) ∧ w = w' := by
  by_cases ha : 0 ≤ a ∧ a ≤ 65535
  · obtain ⟨ha, ha2⟩ := ha
    by_cases hb : 0 ≤ b ∧ b ≤ 65535
    · obtain ⟨hb, hb2⟩ := hb
      have hc : c < 0 ∨ 65535 < c := by omega
      clear h
      go_enter Try.func14, Try.ntmps14
      go_wp2_with (first
        | (go_at_call_of 43 a; refine (word_yes _ _ ha ha2).mono ?_; rintro e w' ⟨rfl, rfl⟩)
        | (go_at_call_of 43 b; refine (word_yes _ _ hb hb2).mono ?_; rintro e w' ⟨rfl, rfl⟩)
        | (go_at_call_of 43 c; refine (word_no _ _ hc).mono ?_; rintro e w' ⟨rfl, rfl⟩))
      go_ret
      exact ⟨rfl, rfl⟩
    · have hb : b < 0 ∨ 65535 < b := by omega
      clear h
      go_enter Try.func14, Try.ntmps14
      go_wp2_with (first
        | (go_at_call_of 43 a; refine (word_yes _ _ ha ha2).mono ?_; rintro e w' ⟨rfl, rfl⟩)
        | (go_at_call_of 43 b; refine (word_no _ _ hb).mono ?_; rintro e w' ⟨rfl, rfl⟩))
      go_ret
      exact ⟨rfl, rfl⟩
  · have ha : a < 0 ∨ 65535 < a := by omega
    clear h
    go_enter Try.func14, Try.ntmps14
    go_wp2_with (first
      | (go_at_call_of 43 a; refine (word_no _ _ ha).mono ?_; rintro e w' ⟨rfl, rfl⟩))
    go_ret
    exact ⟨rfl, rfl⟩
end Go.Proofs.Ytllaojnnackhhaa
