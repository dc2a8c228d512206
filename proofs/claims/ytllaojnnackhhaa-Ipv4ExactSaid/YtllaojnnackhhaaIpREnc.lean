/-
  The walk of the reference's Encode.
-/
import Derived.Test.YtllaojnnackhhaaIpRHdr
namespace Go.Proofs.Ytllaojnnackhhaa
open Go.RowKit
set_option linter.unusedVariables false
set_option linter.unusedSimpArgs false

set_option maxRecDepth 100000 in
set_option maxHeartbeats 2000000 in
theorem rencode_ok (tos id ttl proto : Int) (keep : Bool) (src dst : Int) (A : Option Addr) (n c : Nat) (d : List Int) (w : World) (hd : Byt w w.heap.size A n d) (hn : n ≤ 1480) (hc : checkB ⟨tos, id, ttl, proto, keep, src, dst⟩ = true)
    (hs0 : 0 ≤ src) (hs1 : src ≤ 4294967295) (hd0 : 0 ≤ dst) (hd1 : dst ≤ 4294967295) :
    Calls Try.prog 34 #[.agg #[.int .i64 tos, .int .i64 id, .int .i64 ttl, .int .i64 proto, .bool keep, .int .u32 src, .int .u32 dst, .slice A n c]] w (EncAny (hdB ⟨tos, id, ttl, proto, keep, src, dst⟩ (20 + n) ++ d) 0 w) := by
  have he := Lib.hid (show checkE ⟨tos, id, ttl, proto, keep, src, dst⟩ = 0 from if_pos hc)
  have HC := Lib.hid (checkB_iff.1 hc)
  clear hc
  go_enter Try.func34, Try.ntmps34
  go_wp2_with fail
  refine (rcheck_any ⟨tos, id, ttl, proto, keep, src, dst⟩ _).mono ?_
  rintro e w1 ⟨rfl, hb1⟩
  have B0 : Blk w1 w.heap.size 48 #[.int .i64 tos, .int .i64 id, .int .i64 ttl, .int .i64 proto, .bool keep, .int .u32 src, .int .u32 dst, .slice A n c] := (Blk.new w _ _).below hb1 (by simp)
  have hw1 : Below w.heap.size w w1 := ((Below.refl _ _).alloc (Nat.le_refl _) _).trans (hb1.mono (by simp))
  clear hb1
  have c0 := B0.cell
  rw [he.out]
  go_wp2_with fail
  have s0 : w1.cell? ⟨w.heap.size, 0, none⟩ = some (.int .i64 tos) := c0 0
  have s1 : w1.cell? ⟨w.heap.size, 1, none⟩ = some (.int .i64 id) := c0 1
  have s2 : w1.cell? ⟨w.heap.size, 2, none⟩ = some (.int .i64 ttl) := c0 2
  have s3 : w1.cell? ⟨w.heap.size, 3, none⟩ = some (.int .i64 proto) := c0 3
  have s4 : w1.cell? ⟨w.heap.size, 4, none⟩ = some (.bool keep) := c0 4
  have s5 : w1.cell? ⟨w.heap.size, 5, none⟩ = some (.int .u32 src) := c0 5
  have s6 : w1.cell? ⟨w.heap.size, 6, none⟩ = some (.int .u32 dst) := c0 6
  have s7 : w1.cell? ⟨w.heap.size, 7, none⟩ = some (.slice A n c) := c0 7
  clear c0
  have x1 : IntKind.i64.wrap ((n : Int) + 20) = (n : Int) + 20 := IntWalk.i64_in _ (by omega)
  go_region_held3 (fun w' => w'.cell? ⟨w.heap.size, 0, none⟩ = some (.int .i64 tos) ∧ w'.cell? ⟨w.heap.size, 1, none⟩ = some (.int .i64 id) ∧ w'.cell? ⟨w.heap.size, 2, none⟩ = some (.int .i64 ttl) ∧ w'.cell? ⟨w.heap.size, 3, none⟩ = some (.int .i64 proto) ∧ w'.cell? ⟨w.heap.size, 4, none⟩ = some (.bool keep) ∧ w'.cell? ⟨w.heap.size, 5, none⟩ = some (.int .u32 src) ∧ w'.cell? ⟨w.heap.size, 6, none⟩ = some (.int .u32 dst) ∧ w'.cell? ⟨w.heap.size, 7, none⟩ = some (.slice A n c))
    (first | go_keep | exact ⟨B3.cell 0, B3.cell 1, B3.cell 2, B3.cell 3, B3.cell 4, B3.cell 5, B3.cell 6, B3.cell 7⟩ | exact ⟨B2.cell 0, B2.cell 1, B2.cell 2, B2.cell 3, B2.cell 4, B2.cell 5, B2.cell 6, B2.cell 7⟩)
    (first
      | (go_at_call 48
         refine (header_any _ _ _ _ _ _ _ _ _ HC.out hs0 (by omega) hd0 (by omega) (by omega) (by omega)).mono ?_
         rintro e w2 ⟨A2, m2, c2, rfl, hc2, hm2, hown2, hb2⟩
         have B2 := Blk.below B0.drew hb2 B0.lt
         have W2 := hw1.drew.trans (hb2.mono hw1.size))
      | (refine step_app (by rfl) (.tmp 22) (.tmp 24) _ (by rfl) elU8 w1.heap.size A2 m2 c2 _ (by rfl) hown2 _ _ n c (bv d) (by rfl) ((hd.below W2).1) (bv_one _) (by have := hown2.1; rw [bv_len, hdB_len] at this; omega) hb2.size (m2 + n) rfl ?_
         intro A3 c3 w3 hc3 hm3 hown3 hb3 hg3
         have W3 := W2.trans (hb3.mono hw1.size)
         have B3 := Blk.below B2 hb3 B0.lt))
  have hlen : Hid ((n : Int) + 20 = 20 + n) := Int.add_comm _ _
  go_wp2_with fail
  go_ret2
  have hown4 : w3.ownsRow w1.heap.size 5 1 (.slice A3 (m2 + n) c3) (m2 + n) (bv (hdB ⟨tos, id, ttl, proto, keep, src, dst⟩ (20 + n) ++ d)) := by
    rw [← hlen.out, bv_app]; exact hown3
  exact ⟨A3, m2 + n, c3, rfl, hc3, byt_own hown4 ((hdB_bs _ _).app hd.2), W3⟩
set_option maxRecDepth 100000 in
set_option maxHeartbeats 2000000 in
theorem rencode_no (h : Hd) (A : Option Addr) (n c : Nat) (w : World) (hc : checkB h = false) :
    Calls Try.prog 34 #[.agg #[.int .i64 h.tos, .int .i64 h.id, .int .i64 h.ttl, .int .i64 h.proto, .bool h.keep, .int .u32 h.src, .int .u32 h.dst, .slice A n c]] w (EncAny [] 1 w) := by
  obtain ⟨tos, id, ttl, proto, keep, src, dst⟩ := h
  have he := Lib.hid (show checkE ⟨tos, id, ttl, proto, keep, src, dst⟩ = 1 from by unfold checkE; rw [hc]; rfl)
  clear hc
  show Calls Try.prog 34 #[.agg #[.int .i64 tos, .int .i64 id, .int .i64 ttl, .int .i64 proto, .bool keep, .int .u32 src, .int .u32 dst, .slice A n c]] w _
  go_enter Try.func34, Try.ntmps34
  go_wp2_with fail
  refine (rcheck_any ⟨tos, id, ttl, proto, keep, src, dst⟩ _).mono ?_
  rintro e w1 ⟨rfl, hb1⟩
  have hw1 : Below w.heap.size w w1 := ((Below.refl _ _).alloc (Nat.le_refl _) _).trans (hb1.mono (by simp))
  clear hb1
  rw [he.out]
  go_wp2_with fail
  go_ret2
  exact ⟨none, 0, 0, rfl, Nat.le_refl _, Byt.none_ _ _, hw1⟩
set_option maxRecDepth 100000 in
set_option maxHeartbeats 2000000 in
theorem rencode_big (h : Hd) (A : Option Addr) (n c : Nat) (w : World) (hc : checkB h = true) (hn : 1480 < n) (hn2 : n ≤ 100000) :
    Calls Try.prog 34 #[.agg #[.int .i64 h.tos, .int .i64 h.id, .int .i64 h.ttl, .int .i64 h.proto, .bool h.keep, .int .u32 h.src, .int .u32 h.dst, .slice A n c]] w (EncAny [] 5 w) := by
  obtain ⟨tos, id, ttl, proto, keep, src, dst⟩ := h
  have he := Lib.hid (show checkE ⟨tos, id, ttl, proto, keep, src, dst⟩ = 0 from by unfold checkE; rw [hc]; rfl)
  clear hc
  show Calls Try.prog 34 #[.agg #[.int .i64 tos, .int .i64 id, .int .i64 ttl, .int .i64 proto, .bool keep, .int .u32 src, .int .u32 dst, .slice A n c]] w _
  go_enter Try.func34, Try.ntmps34
  go_wp2_with fail
  refine (rcheck_any ⟨tos, id, ttl, proto, keep, src, dst⟩ _).mono ?_
  rintro e w1 ⟨rfl, hb1⟩
  have B0 : Blk w1 w.heap.size 48 #[.int .i64 tos, .int .i64 id, .int .i64 ttl, .int .i64 proto, .bool keep, .int .u32 src, .int .u32 dst, .slice A n c] := (Blk.new w _ _).below hb1 (by simp)
  have hw1 : Below w.heap.size w w1 := ((Below.refl _ _).alloc (Nat.le_refl _) _).trans (hb1.mono (by simp))
  clear hb1
  have c0 := B0.cell
  rw [he.out]
  go_wp2_with fail
  go_ret2
  exact ⟨none, 0, 0, rfl, Nat.le_refl _, Byt.none_ _ _, hw1⟩
theorem rencode_any (h : Hd) (hok : h.Ok) (A : Option Addr) (n c : Nat) (d : List Int) (w : World) (hd : Byt w w.heap.size A n d) (hn : n ≤ 100000) :
    Calls Try.prog 34 #[.agg #[.int .i64 h.tos, .int .i64 h.id, .int .i64 h.ttl, .int .i64 h.proto, .bool h.keep, .int .u32 h.src, .int .u32 h.dst, .slice A n c]] w (EncAny (encL h d) (encE h d) w) := by
  have hl := hd.len
  by_cases hc : checkB h = true
  · by_cases hb : (1480 : Int) < d.length
    · have e1 : encE h d = 5 := by unfold encE; rw [if_pos hc, if_pos hb]
      have e2 : encL h d = [] := by unfold encL; rw [e1]; rfl
      rw [e1, e2]
      exact rencode_big h A n c w hc (by omega) hn
    · have e1 : encE h d = 0 := by unfold encE; rw [if_pos hc, if_neg hb]
      have e2 : encL h d = hdB h (20 + n) ++ d := by unfold encL; rw [e1, hl]; rfl
      rw [e1, e2]
      obtain ⟨tos, id, ttl, proto, keep, src, dst⟩ := h
      obtain ⟨h1, h2, h3, h4⟩ := hok
      exact rencode_ok tos id ttl proto keep src dst A n c d w hd (by omega) hc h1 h2 h3 h4
  · have hc : checkB h = false := by simpa using hc
    have e1 : encE h d = 1 := by unfold encE; rw [hc]; rfl
    have e2 : encL h d = [] := by unfold encL; rw [e1]; rfl
    rw [e1, e2]
    exact rencode_no h A n c w hc
end Go.Proofs.Ytllaojnnackhhaa
