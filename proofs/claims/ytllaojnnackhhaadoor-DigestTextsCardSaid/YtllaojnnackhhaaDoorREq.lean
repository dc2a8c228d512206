/-
  The walk of the reference's Equal.
-/
import Derived.Test.YtllaojnnackhhaaDoorBase
import Derived.Test.YtllaojnnackhhaaDoorProg
import Derived.Laws.BytesArg
namespace Go.Proofs.YtllaojnnackhhaaDoor
open Go.RowKit
set_option linter.unusedVariables false
set_option linter.unusedSimpArgs false

def eqB (a b : List Int) : Bool := decide (a = b)

theorem requal_len (A1 A2 : Option Addr) (n1 c1 n2 c2 : Nat) (w : World) (h : n1 ≠ n2) (hn1 : n1 ≤ 140737488355328) (hn2 : n2 ≤ 140737488355328) :
    Calls Tryd.prog 8 #[.slice A1 n1 c1, .slice A2 n2 c2] w fun e w' => e = .returned (.bool false) ∧ ∃ q, w' = w.drewN q := by
  have hb : ((n1 : Int) != n2) = true := by simp; omega
  clear h
  go_enter Tryd.func8, Tryd.ntmps8
  go_wp2
  go_ret
  exact ⟨rfl, 0, rfl⟩
theorem requal_same (A1 A2 : Option Addr) (n c1 c2 : Nat) (l1 l2 : List Int) (w : World) (B : Nat) (h1 : Byt w B A1 n l1) (h2 : Byt w B A2 n l2) (hn : n ≤ 140737488355328) :
    Calls Tryd.prog 8 #[.slice A1 n c1, .slice A2 n c2] w fun e w' => e = .returned (.bool (eqB l1 l2)) ∧ ∃ q, w' = w.drewN q := by
  have HL : Hid (l1.length = n ∧ l2.length = n) := ⟨h1.len, h2.len⟩
  go_enter Tryd.func8, Tryd.ntmps8
  go_wp2
  go_loopw [5] (fun i wr => ∃ k q : Nat, k ≤ n ∧ i = .int .i64 k ∧ l1.take k = l2.take k ∧ wr = w.drewN q) (fun i _ => n - (intOf i).toNat)
  case atStart => exact ⟨0, 0, Nat.zero_le _, rfl, rfl, rfl⟩
  case round =>
    obtain ⟨k, q, hk, rfl, he, rfl⟩ := hrel
    have HE := Lib.hid he
    clear he
    by_cases hlt : k < n
    · obtain ⟨b, o, x, rfl, _, hx, hx0, hx1, hc⟩ := h1.at' hlt
      obtain ⟨b', o', y, rfl, _, hy, hy0, hy1, hc1⟩ := h2.at' hlt
      have HX : Hid (l1[k]? = some x ∧ l2[k]? = some y) := ⟨hx, hy⟩
      clear hx hy
      by_cases hxy : x = y
      · subst hxy
        go_wp2
        go_quiet (fail)
        go_wp2
        go_roundw
        case rel => exact ⟨k + 1, _, by omega, by go_num, by rw [List.take_add_one, List.take_add_one, HE.out, HX.out.1, HX.out.2], rfl⟩
        case measure => simp [intOf]; omega
      · have hb : (x != y) = true := by simp [hxy]
        have HN := Lib.hid hxy
        clear hxy
        go_wp2
        go_quiet (fail)
        go_wp2
        go_ret
        refine ⟨ret_bool ?_, _, World.drewN_drewN _ _ _⟩
        unfold eqB
        rw [decide_eq_false]
        intro e
        have := HX.out
        rw [e] at this
        rw [this.1] at this
        exact HN.out (Option.some.inj this.2)
    · go_wp2
      go_ret
      refine ⟨ret_bool ?_, _, rfl⟩
      have h := HL.out
      have e := HE.out
      rw [List.take_of_length_le (by omega), List.take_of_length_le (by omega)] at e
      unfold eqB
      rw [decide_eq_true e]
theorem requal_any (A1 A2 : Option Addr) (n1 c1 n2 c2 : Nat) (l1 l2 : List Int) (w : World) (B : Nat) (h1 : Byt w B A1 n1 l1) (h2 : Byt w B A2 n2 l2) (hn1 : n1 ≤ 140737488355328) (hn2 : n2 ≤ 140737488355328) :
    Calls Tryd.prog 8 #[.slice A1 n1 c1, .slice A2 n2 c2] w fun e w' => e = .returned (.bool (eqB l1 l2)) ∧ ∃ q, w' = w.drewN q := by
  by_cases h : n1 = n2
  · subst h
    exact requal_same _ _ _ _ _ _ _ _ _ h1 h2 hn1
  · have : eqB l1 l2 = false := decide_eq_false (fun e => h (by rw [← h1.len, ← h2.len, e]))
    rw [this]
    exact requal_len _ _ _ _ _ _ _ h hn1 hn2
end Go.Proofs.YtllaojnnackhhaaDoor
