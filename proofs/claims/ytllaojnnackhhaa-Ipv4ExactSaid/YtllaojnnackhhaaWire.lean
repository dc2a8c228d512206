/-
  The walks of package wire: word, fold, Add.
-/
import Derived.Test.YtllaojnnackhhaaRows
import Derived.Test.YtllaojnnackhhaaWireLaw
import Derived.Test.YtllaojnnackhhaaBits
namespace Go.Proofs.Ytllaojnnackhhaa
set_option linter.unusedVariables false
set_option linter.unusedSimpArgs false
open Go.RowKit
set_option linter.unusedVariables false

theorem word_yes (n : Int) (w : World) (h : 0 ≤ n) (h2 : n ≤ 65535) : Calls Try.prog 43 #[.int .i64 n] w fun e w' => e = .returned (.bool true) ∧ w = w' := by
  go_enter Try.func43, Try.ntmps43
  go_wp2
  go_ret
  exact ⟨by simp [h, h2], rfl⟩
theorem word_no (n : Int) (w : World) (h : n < 0 ∨ 65535 < n) : Calls Try.prog 43 #[.int .i64 n] w fun e w' => e = .returned (.bool false) ∧ w = w' := by
  rcases h with h | h
  · go_enter Try.func43, Try.ntmps43
    go_wp2
    go_ret
    exact ⟨rfl, rfl⟩
  · have h0 : 0 ≤ n := by omega
    go_enter Try.func43, Try.ntmps43
    go_wp2
    go_ret
    exact ⟨by simp; omega, rfl⟩

theorem fold_any (n : Int) (w : World) (h0 : 0 ≤ n) (h1 : n ≤ 9223372036854775807) : Calls Try.prog 42 #[.int .i64 n] w fun e w' => e = .returned (.int .i64 (oc n)) ∧ w = w' := by
  go_enter Try.func42, Try.ntmps42
  go_wp2
  go_loop [0] (fun v => ∃ m : Int, 0 ≤ m ∧ m ≤ n ∧ Hid (oc m = oc n) ∧ v = .int .i64 m) (fun v => (intOf v).toNat)
  case atStart => exact ⟨n, h0, by omega, rfl, rfl⟩
  case round =>
    obtain ⟨m, hm0, hm1, ho, rfl⟩ := hrel
    by_cases hb : 65535 < m
    · have hb2 := and_65535 m hm0 (by omega)
      have h1 : 0 ≤ m / 65536 ∧ m / 65536 + m % 65536 < m := by omega
      obtain ⟨h1, h2⟩ := h1
      have h3 : Hid (oc (m / 65536 + m % 65536) = oc n) := (oc_step hb).trans ho
      go_wp2
      exact ⟨⟨m / 65536 + m % 65536, by omega, by omega, h3, rfl⟩, by simp [intOf]; omega⟩
    · go_wp2
      go_ret
      exact ⟨ret_int (by rw [← ho.out, oc_small hm0 (by omega)]), rfl⟩

theorem add_yes (a b : Int) (w : World) (ha : 0 ≤ a) (ha2 : a ≤ 65535) (hb : 0 ≤ b) (hb2 : b ≤ 65535) : Calls Try.prog 11 #[.int .i64 a, .int .i64 b] w fun e w' => e = .returned (.int .i64 (oc (a + b))) ∧ w = w' := by
  go_enter Try.func11, Try.ntmps11
  go_wp2_with (first
    | (go_at_call_of 43 a; refine (word_yes _ _ ha ha2).mono ?_; rintro e w' ⟨rfl, rfl⟩)
    | (go_at_call_of 43 b; refine (word_yes _ _ hb hb2).mono ?_; rintro e w' ⟨rfl, rfl⟩)
    | (go_at_call 42; refine (fold_any _ _ (by omega) (by omega)).mono ?_; rintro e w' ⟨rfl, rfl⟩))
  go_ret
  exact ⟨rfl, rfl⟩
theorem add_no (a b : Int) (w : World) (h : ¬ (0 ≤ a ∧ a ≤ 65535 ∧ 0 ≤ b ∧ b ≤ 65535)) : Calls Try.prog 11 #[.int .i64 a, .int .i64 b] w fun e w' => e = .returned (.int .i64 0) ∧ w = w' := by
  by_cases ha : 0 ≤ a ∧ a ≤ 65535
  · obtain ⟨ha, ha2⟩ := ha
    have hb : b < 0 ∨ 65535 < b := by omega
    clear h
    go_enter Try.func11, Try.ntmps11
    go_wp2_with (first
      | (go_at_call_of 43 a; refine (word_yes _ _ ha ha2).mono ?_; rintro e w' ⟨rfl, rfl⟩)
      | (go_at_call_of 43 b; refine (word_no _ _ hb).mono ?_; rintro e w' ⟨rfl, rfl⟩))
    go_ret
    exact ⟨rfl, rfl⟩
  · have hb : a < 0 ∨ 65535 < a := by omega
    clear h ha
    go_enter Try.func11, Try.ntmps11
    go_wp2_with (first
      | (go_at_call 43; refine (word_no _ _ hb).mono ?_; rintro e w' ⟨rfl, rfl⟩))
    go_ret
    exact ⟨rfl, rfl⟩
end Go.Proofs.Ytllaojnnackhhaa
