/-
  The walks of Lower: the program's and the reference's.
-/
import Derived.Test.YtllaojnnackhhaaIpRDec
import Derived.Test.YtllaojnnackhhaaIpREnc
namespace Go.Proofs.Ytllaojnnackhhaa
open Go.RowKit
set_option linter.unusedVariables false
set_option linter.unusedSimpArgs false

def lowH (b : List Int) : Hd := ⟨(decH b).tos, (decH b).id, (decH b).ttl - 1, (decH b).proto, (decH b).keep, (decH b).src, (decH b).dst⟩
def lowE (b : List Int) : Int := if decE b = 0 then (if (decH b).ttl < 2 then 7 else encE (lowH b) (decD b)) else decE b
def lowL (b : List Int) : List Int := if decE b = 0 then (if (decH b).ttl < 2 then [] else encL (lowH b) (decD b)) else []
theorem decH_bd (b : List Int) (hb : Bs b) : (decH b).Ok ∧ 0 ≤ (decH b).ttl ∧ (decH b).ttl ≤ 255 := by
  unfold decH
  split
  · unfold peekH
    split
    · have h1 := getV_bd (b.take 20) (hb.take 20) 8 1 (by omega)
      have h2 := getV_bd (b.take 20) (hb.take 20) 12 4 (by omega)
      have h3 := getV_bd (b.take 20) (hb.take 20) 16 4 (by omega)
      simp only [pkH, Hd.Ok]
      rw [show (256 : Int) ^ (4 : Int).toNat = 4294967296 from rfl] at h2 h3
      rw [show (256 : Int) ^ (1 : Int).toNat = 256 from rfl] at h1
      omega
    · simp [Hd.zero, Hd.Ok]
  · simp [Hd.zero, Hd.Ok]
theorem decD_len (b : List Int) : (decD b).length ≤ b.length := by
  unfold decD
  split <;> simp

set_option maxRecDepth 100000 in
set_option maxHeartbeats 2000000 in
theorem lower_bad (A : Option Addr) (n c : Nat) (l : List Int) (w : World) (hl : Byt w w.heap.size A n l) (hnc : n ≤ c) (hn2 : n ≤ 100000) (e0 : ¬ decE l = 0) :
    Calls Try.prog 40 #[.slice A n c] w (EncAny (lowL l) (lowE l) w) := by
  have hE : lowE l = decE l := if_neg e0
  have hL : lowL l = [] := if_neg e0
  have HE := Lib.hid (And.intro hE hL)
  have hb : (decE l != 0) = true := by simpa using e0
  clear hE hL e0
  go_enter Try.func40, Try.ntmps40
  go_wp2_with fail
  refine (decode_any _ _ _ _ _ hl hnc hn2).mono ?_
  rintro e w1 ⟨A2, m2, c2, rfl, hc2, hb2, W1⟩
  generalize decH l = h
  obtain ⟨tos, id, ttl, proto, keep, src, dst⟩ := h
  go_wp2_with fail
  go_ret2
  refine ⟨none, 0, 0, by rw [HE.out.1]; rfl, Nat.le_refl _, by rw [HE.out.2]; exact Byt.none_ _ _, ?_⟩
  exact W1.alloc W1.size _
set_option maxRecDepth 100000 in
set_option maxHeartbeats 2000000 in
theorem lower_least (A : Option Addr) (n c : Nat) (l : List Int) (w : World) (hl : Byt w w.heap.size A n l) (hnc : n ≤ c) (hn2 : n ≤ 100000) (e0 : decE l = 0) (ht : (decH l).ttl < 2) :
    Calls Try.prog 40 #[.slice A n c] w (EncAny (lowL l) (lowE l) w) := by
  have hE : lowE l = 7 := by unfold lowE; rw [if_pos e0, if_pos ht]
  have hL : lowL l = [] := by unfold lowL; rw [if_pos e0, if_pos ht]
  have HE := Lib.hid (And.intro hE hL)
  have E0 := Lib.hid e0
  clear hE hL e0
  go_enter Try.func40, Try.ntmps40
  go_wp2_with fail
  refine (decode_any _ _ _ _ _ hl hnc hn2).mono ?_
  rintro e w1 ⟨A2, m2, c2, rfl, hc2, hb2, W1⟩
  rw [E0.out]
  generalize decH l = h at *
  obtain ⟨tos, id, ttl, proto, keep, src, dst⟩ := h
  replace ht : ttl < 2 := ht
  go_wp2_with fail
  go_ret2
  refine ⟨none, 0, 0, by rw [HE.out.1]; rfl, Nat.le_refl _, by rw [HE.out.2]; exact Byt.none_ _ _, ?_⟩
  exact W1.alloc W1.size _
set_option maxRecDepth 100000 in
set_option maxHeartbeats 2000000 in
theorem lower_ok (A : Option Addr) (n c : Nat) (l : List Int) (w : World) (hl : Byt w w.heap.size A n l) (hnc : n ≤ c) (hn2 : n ≤ 100000) (e0 : decE l = 0) (ht : ¬ (decH l).ttl < 2) :
    Calls Try.prog 40 #[.slice A n c] w (EncAny (lowL l) (lowE l) w) := by
  have hE : lowE l = encE (lowH l) (decD l) := by unfold lowE; rw [if_pos e0, if_neg ht]
  have hL : lowL l = encL (lowH l) (decD l) := by unfold lowL; rw [if_pos e0, if_neg ht]
  have hbd := decH_bd l hl.2
  have hdl := decD_len l
  have hll := hl.len
  have HE := Lib.hid (And.intro hE hL)
  have E0 := Lib.hid e0
  clear hE hL e0
  unfold lowH at HE
  go_enter Try.func40, Try.ntmps40
  go_wp2_with fail
  refine (decode_any _ _ _ _ _ hl hnc hn2).mono ?_
  rintro e w1 ⟨A2, m2, c2, rfl, hc2, hb2, W1⟩
  rw [E0.out]
  have hm2 := hb2.len
  have hm3 : m2 ≤ 100000 := by omega
  clear hdl hll
  generalize decD l = d at *
  generalize decH l = h at *
  obtain ⟨tos, id, ttl, proto, keep, src, dst⟩ := h
  replace ht : 2 ≤ ttl := by first | exact ht | exact Int.not_lt.1 ht
  have ht2 : ttl ≤ 255 := hbd.2.2
  have hok : Hd.Ok ⟨tos, id, ttl - 1, proto, keep, src, dst⟩ := hbd.1
  have B1 := Blk.new w1 48 #[.int .i64 tos, .int .i64 id, .int .i64 ttl, .int .i64 proto, .bool keep, .int .u32 src, .int .u32 dst, .slice A2 m2 c2]
  have W2 := W1.alloc W1.size (.cells #[.int .i64 tos, .int .i64 id, .int .i64 ttl, .int .i64 proto, .bool keep, .int .u32 src, .int .u32 dst, .slice A2 m2 c2] 48)
  clear hbd hm2
  go_wp2_with fail
  refine (encode_any ⟨tos, id, ttl - 1, proto, keep, src, dst⟩ hok A2 m2 c2 d _ (by first | exact (hb2.alloc (Nat.le_refl _) _).more (by simp)) hm3).mono ?_
  rintro e w3 ⟨A3, m3, c3, rfl, hc3, hb3, W3⟩
  go_wp2_with fail
  go_ret2
  refine ⟨A3, m3, c3, by rw [HE.out.1]; rfl, hc3, by rw [HE.out.2]; exact hb3, ?_⟩
  exact (W1.alloc W1.size _).trans (W3.mono (by have := W1.size; simp; omega))
theorem lower_any (A : Option Addr) (n c : Nat) (l : List Int) (w : World) (hl : Byt w w.heap.size A n l) (hnc : n ≤ c) (hn2 : n ≤ 100000) :
    Calls Try.prog 40 #[.slice A n c] w (EncAny (lowL l) (lowE l) w) := by
  by_cases e0 : decE l = 0
  · by_cases ht : (decH l).ttl < 2
    · exact lower_least A n c l w hl hnc hn2 e0 ht
    · exact lower_ok A n c l w hl hnc hn2 e0 ht
  · exact lower_bad A n c l w hl hnc hn2 e0

set_option maxRecDepth 100000 in
set_option maxHeartbeats 2000000 in
theorem rlower_bad (A : Option Addr) (n c : Nat) (l : List Int) (w : World) (hl : Byt w w.heap.size A n l) (hnc : n ≤ c) (hn2 : n ≤ 100000) (e0 : ¬ decE l = 0) :
    Calls Try.prog 41 #[.slice A n c] w (EncAny (lowL l) (lowE l) w) := by
  have hE : lowE l = decE l := if_neg e0
  have hL : lowL l = [] := if_neg e0
  have HE := Lib.hid (And.intro hE hL)
  have hb : (decE l != 0) = true := by simpa using e0
  clear hE hL e0
  go_enter Try.func41, Try.ntmps41
  go_wp2_with fail
  refine (rdecode_any _ _ _ _ _ hl hnc hn2).mono ?_
  rintro e w1 ⟨A2, m2, c2, rfl, hc2, hb2, W1⟩
  generalize decH l = h
  obtain ⟨tos, id, ttl, proto, keep, src, dst⟩ := h
  go_wp2_with fail
  go_ret2
  refine ⟨none, 0, 0, by rw [HE.out.1]; rfl, Nat.le_refl _, by rw [HE.out.2]; exact Byt.none_ _ _, ?_⟩
  exact W1.alloc W1.size _
set_option maxRecDepth 100000 in
set_option maxHeartbeats 2000000 in
theorem rlower_least (A : Option Addr) (n c : Nat) (l : List Int) (w : World) (hl : Byt w w.heap.size A n l) (hnc : n ≤ c) (hn2 : n ≤ 100000) (e0 : decE l = 0) (ht : (decH l).ttl < 2) :
    Calls Try.prog 41 #[.slice A n c] w (EncAny (lowL l) (lowE l) w) := by
  have hE : lowE l = 7 := by unfold lowE; rw [if_pos e0, if_pos ht]
  have hL : lowL l = [] := by unfold lowL; rw [if_pos e0, if_pos ht]
  have HE := Lib.hid (And.intro hE hL)
  have E0 := Lib.hid e0
  clear hE hL e0
  go_enter Try.func41, Try.ntmps41
  go_wp2_with fail
  refine (rdecode_any _ _ _ _ _ hl hnc hn2).mono ?_
  rintro e w1 ⟨A2, m2, c2, rfl, hc2, hb2, W1⟩
  rw [E0.out]
  generalize decH l = h at *
  obtain ⟨tos, id, ttl, proto, keep, src, dst⟩ := h
  replace ht : ttl < 2 := ht
  go_wp2_with fail
  go_ret2
  refine ⟨none, 0, 0, by rw [HE.out.1]; rfl, Nat.le_refl _, by rw [HE.out.2]; exact Byt.none_ _ _, ?_⟩
  exact W1.alloc W1.size _
set_option maxRecDepth 100000 in
set_option maxHeartbeats 2000000 in
theorem rlower_ok (A : Option Addr) (n c : Nat) (l : List Int) (w : World) (hl : Byt w w.heap.size A n l) (hnc : n ≤ c) (hn2 : n ≤ 100000) (e0 : decE l = 0) (ht : ¬ (decH l).ttl < 2) :
    Calls Try.prog 41 #[.slice A n c] w (EncAny (lowL l) (lowE l) w) := by
  have hE : lowE l = encE (lowH l) (decD l) := by unfold lowE; rw [if_pos e0, if_neg ht]
  have hL : lowL l = encL (lowH l) (decD l) := by unfold lowL; rw [if_pos e0, if_neg ht]
  have hbd := decH_bd l hl.2
  have hdl := decD_len l
  have hll := hl.len
  have HE := Lib.hid (And.intro hE hL)
  have E0 := Lib.hid e0
  clear hE hL e0
  unfold lowH at HE
  go_enter Try.func41, Try.ntmps41
  go_wp2_with fail
  refine (rdecode_any _ _ _ _ _ hl hnc hn2).mono ?_
  rintro e w1 ⟨A2, m2, c2, rfl, hc2, hb2, W1⟩
  rw [E0.out]
  have hm2 := hb2.len
  have hm3 : m2 ≤ 100000 := by omega
  clear hdl hll
  generalize decD l = d at *
  generalize decH l = h at *
  obtain ⟨tos, id, ttl, proto, keep, src, dst⟩ := h
  replace ht : 2 ≤ ttl := by first | exact ht | exact Int.not_lt.1 ht
  have ht2 : ttl ≤ 255 := hbd.2.2
  have hok : Hd.Ok ⟨tos, id, ttl - 1, proto, keep, src, dst⟩ := hbd.1
  have B1 := Blk.new w1 48 #[.int .i64 tos, .int .i64 id, .int .i64 ttl, .int .i64 proto, .bool keep, .int .u32 src, .int .u32 dst, .slice A2 m2 c2]
  have W2 := W1.alloc W1.size (.cells #[.int .i64 tos, .int .i64 id, .int .i64 ttl, .int .i64 proto, .bool keep, .int .u32 src, .int .u32 dst, .slice A2 m2 c2] 48)
  clear hbd hm2
  go_wp2_with fail
  refine (rencode_any ⟨tos, id, ttl - 1, proto, keep, src, dst⟩ hok A2 m2 c2 d _ (by first | exact (hb2.alloc (Nat.le_refl _) _).more (by simp)) hm3).mono ?_
  rintro e w3 ⟨A3, m3, c3, rfl, hc3, hb3, W3⟩
  go_wp2_with fail
  go_ret2
  refine ⟨A3, m3, c3, by rw [HE.out.1]; rfl, hc3, by rw [HE.out.2]; exact hb3, ?_⟩
  exact (W1.alloc W1.size _).trans (W3.mono (by have := W1.size; simp; omega))
theorem rlower_any (A : Option Addr) (n c : Nat) (l : List Int) (w : World) (hl : Byt w w.heap.size A n l) (hnc : n ≤ c) (hn2 : n ≤ 100000) :
    Calls Try.prog 41 #[.slice A n c] w (EncAny (lowL l) (lowE l) w) := by
  by_cases e0 : decE l = 0
  · by_cases ht : (decH l).ttl < 2
    · exact rlower_least A n c l w hl hnc hn2 e0 ht
    · exact rlower_ok A n c l w hl hnc hn2 e0 ht
  · exact rlower_bad A n c l w hl hnc hn2 e0
end Go.Proofs.Ytllaojnnackhhaa
