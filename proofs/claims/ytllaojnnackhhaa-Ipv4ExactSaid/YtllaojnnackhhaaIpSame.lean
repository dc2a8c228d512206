/-
  The walks of the sanity check of chapter 5, of the comparison of two packets, and of the choice of an address.
-/
import Derived.Test.YtllaojnnackhhaaIpBackLaw
import Derived.Test.YtllaojnnackhhaaWireEq
import Derived.Test.YtllaojnnackhhaaInv
namespace Go.Proofs.Ytllaojnnackhhaa
open Go.RowKit
set_option linter.unusedVariables false
set_option linter.unusedSimpArgs false

set_option maxRecDepth 100000 in
set_option maxHeartbeats 2000000 in
theorem awake5_any (w : World) : Calls Try.prog 27 #[] w fun e w' => e = .returned (.bool true) ∧ Below w.heap.size w w' := by
  have hc : checkB ⟨0, 0, 3, 17, false, 1, 2⟩ = true := by decide
  have hok : Hd.Ok ⟨0, 0, 3, 17, false, 1, 2⟩ := by simp [Hd.Ok]
  have hE := (enc_back ⟨0, 0, 3, 17, false, 1, 2⟩ [] hc (by simp)).1
  have hL := (enc_back ⟨0, 0, 3, 17, false, 1, 2⟩ [] hc (by simp)).2
  have hl20 : (encL ⟨0, 0, 3, 17, false, 1, 2⟩ []).length = 20 := by rw [hL]; simp [hdB_len]
  obtain ⟨d1, d2, d3⟩ := dec_back ⟨0, 0, 3, 17, false, 1, 2⟩ [] hc hok (by simp)
  have HK := Lib.hid (And.intro hE (And.intro hl20 (And.intro d1 d2)))
  clear hc hE hL hl20 d1 d2 d3
  go_enter Try.func27, Try.ntmps27
  go_wp2_with fail
  refine (encode_any ⟨0, 0, 3, 17, false, 1, 2⟩ hok none 0 0 [] _ (Byt.none_ _ _) (by omega)).mono ?_
  rintro e w1 ⟨A1, m1, c1, rfl, hc1, hb1, W1⟩
  have hm : m1 = 20 := by rw [← hb1.len]; exact HK.out.2.1
  subst hm
  rw [HK.out.1]
  go_wp2_with fail
  refine (decode_any _ _ _ _ _ hb1 hc1 (by omega)).mono ?_
  rintro e w2 ⟨A2, m2, c2, rfl, hc2, hb2, W2⟩
  rw [HK.out.2.2.1, HK.out.2.2.2]
  go_wp2_with fail
  go_ret
  exact ⟨rfl, (W1.trans (W2.mono W1.size)).alloc (by have := W1.size; have := W2.size; omega) _⟩

set_option maxRecDepth 100000 in
set_option maxHeartbeats 2000000 in
theorem same_any (a : Hd) (A1 : Option Addr) (n1 c1 : Nat) (l1 : List Int) (A2 : Option Addr) (n2 c2 : Nat) (l2 : List Int) (w : World) (h1 : Byt w w.heap.size A1 n1 l1) (h2 : Byt w w.heap.size A2 n2 l2) (hn1 : n1 ≤ 100000) (hn2 : n2 ≤ 100000) :
    Calls Try.prog 32 #[.agg #[.int .i64 a.tos, .int .i64 a.id, .int .i64 a.ttl, .int .i64 a.proto, .bool a.keep, .int .u32 a.src, .int .u32 a.dst, .slice A1 n1 c1], .agg #[.int .i64 a.tos, .int .i64 a.id, .int .i64 a.ttl, .int .i64 a.proto, .bool a.keep, .int .u32 a.src, .int .u32 a.dst, .slice A2 n2 c2]] w
      fun e w' => e = .returned (.bool (eqB l1 l2)) ∧ Below w.heap.size w w' := by
  obtain ⟨tos, id, ttl, proto, keep, src, dst⟩ := a
  have hb : ∀ o o', Below w.heap.size w ((w.alloc o).alloc o') := fun o o' => ((Below.refl _ _).alloc (Nat.le_refl _) o).alloc (by simp) o'
  have h1' : ∀ o o', Byt ((w.alloc o).alloc o') w.heap.size A1 n1 l1 := fun o o' => (h1.alloc (Nat.le_refl _) o).alloc (by simp) o'
  have h2' : ∀ o o', Byt ((w.alloc o).alloc o') w.heap.size A2 n2 l2 := fun o o' => (h2.alloc (Nat.le_refl _) o).alloc (by simp) o'
  have HB := Lib.hid hb
  have H1 := Lib.hid h1'
  have H2 := Lib.hid h2'
  clear hb h1' h2'
  go_enter Try.func32, Try.ntmps32
  go_wp2_with fail
  refine (requal_any _ _ _ _ _ _ _ _ _ _ (H1.out _ _) (H2.out _ _) (by omega) (by omega)).mono ?_
  rintro e w' ⟨rfl, q, rfl⟩
  go_wp2_with fail
  go_ret
  exact ⟨rfl, below_drewN (HB.out _ _) q⟩
end Go.Proofs.Ytllaojnnackhhaa
