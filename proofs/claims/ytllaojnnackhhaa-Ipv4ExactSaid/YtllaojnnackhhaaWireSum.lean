/-
  The walk of wire.Sum and wire.Checksum.
-/
import Derived.Test.YtllaojnnackhhaaWire
namespace Go.Proofs.Ytllaojnnackhhaa
open Go.RowKit
set_option linter.unusedVariables false
set_option linter.unusedSimpArgs false

theorem sum_any (A : Option Addr) (n c : Nat) (l : List Int) (w : World) (B : Nat) (hl : Byt w B A n l) (hn : n ≤ 140737488355328) :
    Calls Try.prog 10 #[.slice A n c] w fun e w' => e = .returned (.int .i64 (sm l)) ∧ w = w' := by
  go_enter Try.func10, Try.ntmps10
  go_wp2
  go_loop [3, 8] (fun s i => ∃ k : Nat, k ≤ n ∧ i = .int .i64 k ∧ s = .int .i64 (raw (l.take k))) (fun _ i => n - (intOf i).toNat)
  case atStart => exact ⟨0, Nat.zero_le _, rfl, rfl⟩
  case round =>
    obtain ⟨k, hk, rfl, rfl⟩ := hrel
    have hb := raw_bd (l.take k) (hl.2.take k)
    obtain ⟨hb0, hb1⟩ := hb
    have hb2 : raw (l.take k) ≤ 65280 * n := by
      have : (l.take k).length ≤ n := by have := hl.len; simp; omega
      omega
    clear hb1
    by_cases hlt : k < n
    · obtain ⟨ad, x, rfl, hA, hx, hx0, hx1, hc⟩ := hl.at_ hlt
      have hs := Lib.hid (raw_take l k x hx)
      have ha := and_1 k (by omega) (by omega)
      by_cases hp : k % 2 = 0
      · go_wp2
        refine ⟨⟨k + 1, by omega, by go_num, ?_⟩, by simp [intOf]; omega⟩
        rw [hs.out, if_pos hp, IntWalk.wrap64_in (x * 256) ⟨by omega, by omega⟩, IntWalk.wrap64_in _ ⟨by omega, by omega⟩]
      · go_wp2
        refine ⟨⟨k + 1, by omega, by go_num, ?_⟩, by simp [intOf]; omega⟩
        have e : x * 2 ^ (8 * (1 - k % 2)) = x := by rw [show k % 2 = 1 from by omega]; simp
        rw [hs.out, if_neg hp, e, IntWalk.wrap64_in x ⟨by omega, by omega⟩, IntWalk.wrap64_in _ ⟨by omega, by omega⟩]
    · go_wp2_with (go_at_call 42; refine (fold_any _ _ (by omega) (by omega)).mono ?_; rintro e w' ⟨rfl, rfl⟩)
      go_ret
      exact ⟨ret_int (by have := hl.len; rw [List.take_of_length_le (by omega)]; rfl), rfl⟩

theorem checksum_any (A : Option Addr) (n c : Nat) (l : List Int) (w : World) (B : Nat) (hl : Byt w B A n l) (hn : n ≤ 140737488355328) :
    Calls Try.prog 13 #[.slice A n c] w fun e w' => e = .returned (.int .i64 (65535 - sm l)) ∧ w = w' := by
  have hb := oc_bd (raw_bd l hl.2).1
  have hb1 : 0 ≤ sm l := hb.1
  have hb2 : sm l ≤ 65535 := hb.2
  clear hb
  go_enter Try.func13, Try.ntmps13
  go_wp2_with (go_at_call 10; refine (sum_any _ _ _ _ _ _ hl hn).mono ?_; rintro e w' ⟨rfl, rfl⟩)
  go_ret
  exact ⟨rfl, rfl⟩
end Go.Proofs.Ytllaojnnackhhaa
