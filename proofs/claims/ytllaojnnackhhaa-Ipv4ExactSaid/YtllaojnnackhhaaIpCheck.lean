/-
  The walks of ipv4.Check and of the reference's Check.
-/
import Derived.Test.YtllaojnnackhhaaRows
import Derived.Test.YtllaojnnackhhaaIpLaw
namespace Go.Proofs.Ytllaojnnackhhaa
open Go.RowKit
set_option linter.unusedVariables false
set_option linter.unusedSimpArgs false

def hcells (h : Hd) : Array Value := #[.int .i64 h.tos, .int .i64 h.id, .int .i64 h.ttl, .int .i64 h.proto, .bool h.keep, .int .u32 h.src, .int .u32 h.dst]
def hv (h : Hd) : Value := .agg (hcells h)

theorem octet_any (n : Int) (w : World) : Calls Try.prog 49 #[.int .i64 n] w fun e w' => e = .returned (.bool (octF n)) ∧ w = w' := by
  by_cases h : 0 ≤ n
  · by_cases h2 : n < 256
    · have ho := Lib.hid (show octF n = true from decide_eq_true ⟨h, h2⟩)
      go_enter Try.func49, Try.ntmps49
      go_wp2
      go_ret
      exact ⟨ret_bool (by rw [ho.out]), rfl⟩
    · have ho := Lib.hid (show octF n = false from decide_eq_false (by omega))
      go_enter Try.func49, Try.ntmps49
      go_wp2
      go_ret
      exact ⟨ret_bool (by rw [ho.out]), rfl⟩
  · have ho := Lib.hid (show octF n = false from decide_eq_false (by omega))
    go_enter Try.func49, Try.ntmps49
    go_wp2
    go_ret
    exact ⟨ret_bool (by rw [ho.out]), rfl⟩

set_option maxHeartbeats 2000000 in
theorem check_any (h : Hd) (w : World) : Calls Try.prog 35 #[hv h] w fun e w' => e = .returned (.int .i64 (checkE h)) ∧ Below w.heap.size w w' := by
  obtain ⟨tos, id, ttl, proto, keep, src, dst⟩ := h
  have hb : ∀ o, Below w.heap.size w (w.alloc o) := fun o => (Below.refl _ _).alloc (Nat.le_refl _) o
  have HB := Lib.hid hb
  clear hb
  show Calls Try.prog 35 #[.agg #[.int .i64 tos, .int .i64 id, .int .i64 ttl, .int .i64 proto, .bool keep, .int .u32 src, .int .u32 dst]] w _
  by_cases hc : checkB ⟨tos, id, ttl, proto, keep, src, dst⟩ = true
  · have he := Lib.hid (show checkE ⟨tos, id, ttl, proto, keep, src, dst⟩ = 0 from if_pos hc)
    unfold checkB at hc
    simp only [Bool.and_eq_true] at hc
    obtain ⟨h1, h2, h3, h4⟩ := hc
    have h5 := of_decide_eq_true h4
    obtain ⟨h5, h6⟩ := h5
    replace h1 : octF tos = true := h1
    replace h2 : octF ttl = true := h2
    replace h3 : octF proto = true := h3
    replace h5 : 0 ≤ id := h5
    replace h6 : id < 65536 := h6
    clear h4
    go_enter Try.func35, Try.ntmps35
    go_wp2_with (go_at_call 49; refine (octet_any _ _).mono ?_; rintro e w' ⟨rfl, rfl⟩)
    go_ret
    exact ⟨ret_int he.out.symm, HB.out _⟩
  · have he := Lib.hid (show checkE ⟨tos, id, ttl, proto, keep, src, dst⟩ = 1 from if_neg hc)
    unfold checkB at hc
    simp only [Bool.and_eq_true, Bool.not_eq_true] at hc
    by_cases h1 : octF tos = true
    · by_cases h2 : octF ttl = true
      · by_cases h3 : octF proto = true
        · by_cases h4 : id < 0
          · clear hc
            go_enter Try.func35, Try.ntmps35
            go_wp2_with (go_at_call 49; refine (octet_any _ _).mono ?_; rintro e w' ⟨rfl, rfl⟩)
            go_ret
            exact ⟨ret_int he.out.symm, HB.out _⟩
          · have h5 : 65536 ≤ id := by
              rcases Int.lt_or_le id 65536 with h5 | h5
              · exact absurd ⟨h1, h2, h3, decide_eq_true ⟨by omega, h5⟩⟩ hc
              · exact h5
            clear hc
            go_enter Try.func35, Try.ntmps35
            go_wp2_with (go_at_call 49; refine (octet_any _ _).mono ?_; rintro e w' ⟨rfl, rfl⟩)
            go_ret
            exact ⟨ret_int he.out.symm, HB.out _⟩
        · have h3 : octF proto = false := by simpa using h3
          clear hc
          go_enter Try.func35, Try.ntmps35
          go_wp2_with (go_at_call 49; refine (octet_any _ _).mono ?_; rintro e w' ⟨rfl, rfl⟩)
          go_ret
          exact ⟨ret_int he.out.symm, HB.out _⟩
      · have h2 : octF ttl = false := by simpa using h2
        clear hc
        go_enter Try.func35, Try.ntmps35
        go_wp2_with (go_at_call 49; refine (octet_any _ _).mono ?_; rintro e w' ⟨rfl, rfl⟩)
        go_ret
        exact ⟨ret_int he.out.symm, HB.out _⟩
    · have h1 : octF tos = false := by simpa using h1
      clear hc
      go_enter Try.func35, Try.ntmps35
      go_wp2_with (go_at_call 49; refine (octet_any _ _).mono ?_; rintro e w' ⟨rfl, rfl⟩)
      go_ret
      exact ⟨ret_int he.out.symm, HB.out _⟩

theorem checkB_iff {tos id ttl proto : Int} {keep : Bool} {src dst : Int} : checkB ⟨tos, id, ttl, proto, keep, src, dst⟩ = true ↔ (0 ≤ tos ∧ tos < 256) ∧ (0 ≤ ttl ∧ ttl < 256) ∧ (0 ≤ proto ∧ proto < 256) ∧ (0 ≤ id ∧ id < 65536) := by
  unfold checkB octF wordF
  simp only [Bool.and_eq_true, decide_eq_true_eq]
set_option maxHeartbeats 2000000 in
theorem rcheck_any (h : Hd) (w : World) : Calls Try.prog 36 #[hv h] w fun e w' => e = .returned (.int .i64 (checkE h)) ∧ Below w.heap.size w w' := by
  obtain ⟨tos, id, ttl, proto, keep, src, dst⟩ := h
  have hb : ∀ o, Below w.heap.size w (w.alloc o) := fun o => (Below.refl _ _).alloc (Nat.le_refl _) o
  have HB := Lib.hid hb
  clear hb
  show Calls Try.prog 36 #[.agg #[.int .i64 tos, .int .i64 id, .int .i64 ttl, .int .i64 proto, .bool keep, .int .u32 src, .int .u32 dst]] w _
  by_cases h0 : tos < 0
  · have he : Hid (checkE ⟨tos, id, ttl, proto, keep, src, dst⟩ = 1) := if_neg (fun hc => by have := checkB_iff.1 hc; omega)
    go_enter Try.func36, Try.ntmps36
    go_wp2
    go_ret
    exact ⟨ret_int he.out.symm, HB.out _⟩
  by_cases h1 : 255 < tos
  · have he : Hid (checkE ⟨tos, id, ttl, proto, keep, src, dst⟩ = 1) := if_neg (fun hc => by have := checkB_iff.1 hc; omega)
    go_enter Try.func36, Try.ntmps36
    go_wp2
    go_ret
    exact ⟨ret_int he.out.symm, HB.out _⟩
  by_cases h2 : ttl < 0
  · have he : Hid (checkE ⟨tos, id, ttl, proto, keep, src, dst⟩ = 1) := if_neg (fun hc => by have := checkB_iff.1 hc; omega)
    go_enter Try.func36, Try.ntmps36
    go_wp2
    go_ret
    exact ⟨ret_int he.out.symm, HB.out _⟩
  by_cases h3 : 255 < ttl
  · have he : Hid (checkE ⟨tos, id, ttl, proto, keep, src, dst⟩ = 1) := if_neg (fun hc => by have := checkB_iff.1 hc; omega)
    go_enter Try.func36, Try.ntmps36
    go_wp2
    go_ret
    exact ⟨ret_int he.out.symm, HB.out _⟩
  by_cases h4 : proto < 0
  · have he : Hid (checkE ⟨tos, id, ttl, proto, keep, src, dst⟩ = 1) := if_neg (fun hc => by have := checkB_iff.1 hc; omega)
    go_enter Try.func36, Try.ntmps36
    go_wp2
    go_ret
    exact ⟨ret_int he.out.symm, HB.out _⟩
  by_cases h5 : 255 < proto
  · have he : Hid (checkE ⟨tos, id, ttl, proto, keep, src, dst⟩ = 1) := if_neg (fun hc => by have := checkB_iff.1 hc; omega)
    go_enter Try.func36, Try.ntmps36
    go_wp2
    go_ret
    exact ⟨ret_int he.out.symm, HB.out _⟩
  by_cases h6 : id < 0
  · have he : Hid (checkE ⟨tos, id, ttl, proto, keep, src, dst⟩ = 1) := if_neg (fun hc => by have := checkB_iff.1 hc; omega)
    go_enter Try.func36, Try.ntmps36
    go_wp2
    go_ret
    exact ⟨ret_int he.out.symm, HB.out _⟩
  by_cases h7 : 65535 < id
  · have he : Hid (checkE ⟨tos, id, ttl, proto, keep, src, dst⟩ = 1) := if_neg (fun hc => by have := checkB_iff.1 hc; omega)
    go_enter Try.func36, Try.ntmps36
    go_wp2
    go_ret
    exact ⟨ret_int he.out.symm, HB.out _⟩
  have he : Hid (checkE ⟨tos, id, ttl, proto, keep, src, dst⟩ = 0) := if_pos (checkB_iff.2 (by omega))
  go_enter Try.func36, Try.ntmps36
  go_wp2
  go_ret
  exact ⟨ret_int he.out.symm, HB.out _⟩
end Go.Proofs.Ytllaojnnackhhaa
