/-
  The walk of the law WireExact.
-/
import Derived.Test.YtllaojnnackhhaaWireAny
import Derived.Test.YtllaojnnackhhaaInv
import Derived.Test.YtllaojnnackhhaaFrame
namespace Go.Proofs.Ytllaojnnackhhaa
open Go.RowKit
set_option linter.unusedVariables false
set_option linter.unusedSimpArgs false

theorem eqB_refl (l : List Int) : eqB l l = true := decide_eq_true rfl

set_option maxRecDepth 100000 in
set_option maxHeartbeats 2000000 in
theorem exact_small (A1 A2 A3 : Option Addr) (n1 c1 n2 c2 n3 c3 : Nat) (l1 l2 l3 : List Int) (x y z : Int) (w : World) (h1 : Byt w w.heap.size A1 n1 l1) (h2 : Byt w w.heap.size A2 n2 l2) (h3 : Byt w w.heap.size A3 n3 l3)
    (hn1 : n1 ≤ 3000) (hn2 : n2 ≤ 3000) (hc1 : n1 ≤ c1) (hc3 : n3 ≤ c3) (hm3 : (n3 : Int) ≤ 9223372036854775807) (hz : z ≤ 9223372036854775807) :
    Calls Try.prog 5 #[.slice A1 n1 c1, .slice A2 n2 c2, .int .i64 x, .int .i64 y, .int .i64 z, .slice A3 n3 c3] w fun e w' => e = .returned (.bool true) ∧ Below w.heap.size w w' := by
  go_enter Try.func5, Try.ntmps5
  go_wp2_with fail
  refine (awake4_any _).mono ?_
  rintro e w1 ⟨rfl, hb1⟩
  go_wp2_with fail
  refine (new_any _ _ _ _ _ _ ((h3.below hb1).more hb1.size) hc3 hm3 (by omega) (by omega)).mono ?_
  rintro e w2 ⟨rfl, hC2, hb2, hs2⟩
  have I2 : Inv w w1.heap.size w2 := ⟨hb1.size, hb1.trans (hb2.mono hb1.size), hC2⟩
  clear hs2 hC2 hb2
  obtain ⟨cb, hcb⟩ : ∃ cb, w1.heap.size = cb := ⟨_, rfl⟩
  rw [hcb] at I2 ⊢
  clear hcb
  go_wp2_with fail
  refine (next_any cb _ 7 I2.cod).mono ?_
  rintro e w3 ⟨k1, rfl, hk10, _, hk11, hC3, hg3, hs3⟩
  have hk11 := hk11 (by omega)
  have I3 := I2.next hC3 hg3
  clear hC3 hg3 hs3 I2
  go_wp2_with fail
  have J3 : Ints (w3.alloc (.cells #[.int .i64 y, .int .i64 (1 + k1), .int .i64 0, .int .i64 8] 3)) cb w3.heap.size [y, 1 + k1, 0, 8] := ⟨I3.cod.lt, Blk.new _ _ _⟩
  have I4 := I3.alloc (.cells #[.int .i64 y, .int .i64 (1 + k1), .int .i64 0, .int .i64 8] 3)
  generalize w3.alloc (.cells #[.int .i64 y, .int .i64 (1 + k1), .int .i64 0, .int .i64 8] 3) = w4 at J3 I4 ⊢
  obtain ⟨g1, hg1⟩ : ∃ g, w3.heap.size = g := ⟨_, rfl⟩
  rw [hg1] at J3 ⊢
  clear hg1 I3
  go_loopw [59] (fun s wr => ∃ j : Nat, j ≤ 4 ∧ s = .int .i64 j ∧ Inv w cb wr ∧ Ints wr cb g1 [y, 1 + k1, 0, 8]) (fun s _ => 4 - (intOf s).toNat)
  case atStart => exact ⟨0, Nat.zero_le _, rfl, I4, J3⟩
  case round =>
    obtain ⟨j, hj, rfl, I5, J5⟩ := hrel
    clear I4 J3
    by_cases hlt : j < 4
    · obtain ⟨kk, _, hkc⟩ := J5.at_ hlt
      go_wp2_with fail
      refine (int_any cb _ I5.cod).mono ?_
      rintro e w6 ⟨u1, rfl, hu0, hu1, hC6, hg6⟩
      have I6 := I5.next hC6 hg6
      have J6 := J5.next hg6
      clear hC6 hg6 I5 J5 hkc
      go_wp2_with fail
      refine (next_any cb _ 65536 I6.cod).mono ?_
      rintro e w7 ⟨u2, rfl, hu20, _, hu21, hC7, hg7, _⟩
      have hu21 := hu21 (by omega)
      have I7 := I6.next hC7 hg7
      have J7 := J6.next hg7
      clear hC7 hg7 I6 J6
      go_wp2_with fail
      have K8 : Ints (w7.alloc (.cells #[.int .i64 x, .int .i64 u1, .int .i64 u2] 3)) cb w7.heap.size [x, u1, u2] := ⟨I7.cod.lt, Blk.new _ _ _⟩
      have I8 := I7.alloc (.cells #[.int .i64 x, .int .i64 u1, .int .i64 u2] 3)
      have J8 := J7.alloc (.cells #[.int .i64 x, .int .i64 u1, .int .i64 u2] 3)
      generalize w7.alloc (.cells #[.int .i64 x, .int .i64 u1, .int .i64 u2] 3) = w8 at K8 I8 J8 ⊢
      obtain ⟨g2, hg2⟩ : ∃ g, w7.heap.size = g := ⟨_, rfl⟩
      rw [hg2] at K8 ⊢
      clear hg2 I7 J7
      go_loopw [70] (fun s wi => ∃ i : Nat, i ≤ 3 ∧ s = .int .i64 i ∧ Inv w cb wi ∧ Ints wi cb g1 [y, 1 + k1, 0, 8] ∧ Ints wi cb g2 [x, u1, u2]) (fun s _ => 3 - (intOf s).toNat)
      case atStart => exact ⟨0, Nat.zero_le _, rfl, I8, J8, K8⟩
      case round =>
        obtain ⟨i, hi, rfl, I9, J9, K9⟩ := hrel
        clear I8 J8 K8
        by_cases hlt2 : i < 3
        · obtain ⟨xx, _, hxc⟩ := K9.at_ hlt2
          go_wp2_with fail
          refine (put_any _ _ _ _ _ (I9.byt h1) (by omega) xx kk).mono ?_
          rintro e w10 ⟨A10, m10, c10, rfl, hmc10, hB10, hb10⟩
          have I10 := I9.below hb10
          have J10 := J9.below hb10
          have K10 := K9.below hb10
          clear I9 J9 K9 hxc hb10
          go_wp2_with fail
          refine (rput_any _ _ _ _ _ (I10.byt h1) (by omega) xx kk).mono ?_
          rintro e w11 ⟨A11, m11, c11, rfl, hmc11, hB11, hb11⟩
          have I11 := I10.below hb11
          have J11 := J10.below hb11
          have K11 := K10.below hb11
          have hB10' := (hB10.below hb11).more hb11.size
          clear I10 J10 K10 hB10 hb11
          go_wp2_with fail
          refine (requal_any _ _ _ _ _ _ _ _ _ _ hB10' hB11 (by have := hB11.len; have := hB10'.len; have := putL_len l1 xx kk; have := h1.len; omega) (by have := hB11.len; have := putL_len l1 xx kk; have := h1.len; omega)).mono ?_
          rintro e w12 ⟨rfl, q, rfl⟩
          rw [eqB_refl]
          have I12 := I11.drewN q
          have J12 := J11.drewN q
          have K12 := K11.drewN q
          clear I11 J11 K11 hB10' hB11
          go_wp2_with fail
          go_roundw
          case rel => exact ⟨i + 1, by omega, by go_num, I12, J12, K12⟩
          case measure => simp [intOf]; omega
        · go_wp2_with fail
          refine (next_any cb _ _ I9.cod).mono ?_
          rintro e w10 ⟨u3, rfl, hu30, _, hu31, hC10, hg10, _⟩
          have hu31 := hu31 (by omega)
          have I10 := I9.next hC10 hg10
          have J10 := J9.next hg10
          clear hC10 hg10 I9 J9 K9
          go_wp2_with fail
          have hwr : wrap64 ((n1 : Int) - kk) ≤ 9223372036854775807 := by unfold wrap64; omega
          have HV : Hid (∀ v ∈ [z, u3, wrap64 ((n1 : Int) - kk)], v ≤ 9223372036854775807) := by
            intro v hv
            simp only [List.mem_cons, List.not_mem_nil, or_false] at hv
            rcases hv with rfl | rfl | rfl <;> omega
          have K12 : Ints (w10.alloc (.cells #[.int .i64 z, .int .i64 u3, .int .i64 (wrap64 ((n1 : Int) - kk))] 3)) cb w10.heap.size [z, u3, wrap64 ((n1 : Int) - kk)] := ⟨I10.cod.lt, Blk.new _ _ _⟩
          have I12 := I10.alloc (.cells #[.int .i64 z, .int .i64 u3, .int .i64 (wrap64 ((n1 : Int) - kk))] 3)
          have J12 := J10.alloc (.cells #[.int .i64 z, .int .i64 u3, .int .i64 (wrap64 ((n1 : Int) - kk))] 3)
          generalize w10.alloc (.cells #[.int .i64 z, .int .i64 u3, .int .i64 (wrap64 ((n1 : Int) - kk))] 3) = w12 at K12 I12 J12 ⊢
          obtain ⟨g3, hg3⟩ : ∃ g, w10.heap.size = g := ⟨_, rfl⟩
          rw [hg3] at K12 ⊢
          clear hg3 I10 J10 hwr
          go_loopw [110] (fun s wi => ∃ i : Nat, i ≤ 3 ∧ s = .int .i64 i ∧ Inv w cb wi ∧ Ints wi cb g1 [y, 1 + k1, 0, 8] ∧ Ints wi cb g3 [z, u3, wrap64 ((n1 : Int) - kk)]) (fun s _ => 3 - (intOf s).toNat)
          case atStart => exact ⟨0, Nat.zero_le _, rfl, I12, J12, K12⟩
          case round =>
            obtain ⟨i', hi', rfl, I13, J13, K13⟩ := hrel
            clear I12 J12 K12
            by_cases hlt3 : i' < 3
            · obtain ⟨xx, hxm, hxc⟩ := K13.at_ hlt3
              have hxx : xx ≤ 9223372036854775807 := HV.out xx (List.mem_of_getElem? hxm)
              have HB := Lib.hid (I13.byt h1)
              clear hxm
              go_wp2_with (first
                | (go_at_call 12; refine (get_any _ _ _ _ _ _ HB.out hc1 (by omega) _ _).mono ?_; rintro e w' ⟨rfl, rfl⟩)
                | (go_at_call 21; refine (rget_any _ _ _ _ _ _ HB.out hc1 (by omega) _ _ hxx).mono ?_; rintro e w' ⟨rfl, rfl⟩))
              go_roundw
              case rel => exact ⟨i' + 1, by omega, by go_num, I13, J13, K13⟩
              case measure => simp [intOf]; omega
            · go_wp2_with fail
              go_roundw
              case rel => exact ⟨j + 1, by omega, by go_num, I13, J13⟩
              case measure => simp [intOf]; omega
    · go_wp2_with fail
      refine (next_any cb _ 65536 I5.cod).mono ?_
      rintro e w6 ⟨a1, rfl, ha10, _, ha11, hC6, hg6, _⟩
      have I6 := I5.next hC6 hg6
      clear hC6 hg6 I5 J5
      go_wp2_with fail
      refine (next_any cb _ 65536 I6.cod).mono ?_
      rintro e w7 ⟨a2, rfl, ha20, _, ha21, hC7, hg7, _⟩
      have I7 := I6.next hC7 hg7
      clear hC7 hg7 I6
      go_wp2_with fail
      refine (next_any cb _ 65536 I7.cod).mono ?_
      rintro e w8 ⟨a3, rfl, ha30, _, ha31, hC8, hg8, _⟩
      have I8 := I7.next hC8 hg8
      clear hC8 hg8 I7
      have HB1 := Lib.hid (I8.byt h1)
      have HB2 := Lib.hid (I8.byt h2)
      go_wp2_with (first
        | (go_at_call 11; refine (add_any _ _ _).mono ?_; rintro e w' ⟨rfl, rfl⟩)
        | (go_at_call 22; refine (radd_any _ _ _).mono ?_; rintro e w' ⟨rfl, rfl⟩)
        | (go_at_call 14; refine (update_any _ _ _ _).mono ?_; rintro e w' ⟨rfl, rfl⟩)
        | (go_at_call 25; refine (rupdate_any _ _ _ _).mono ?_; rintro e w' ⟨rfl, rfl⟩)
        | (go_at_call 10; refine (sum_any _ _ _ _ _ _ HB1.out (by omega)).mono ?_; rintro e w' ⟨rfl, rfl⟩)
        | (go_at_call 23; refine (rsum_any _ _ _ _ _ _ HB1.out (by omega)).mono ?_; rintro e w' ⟨rfl, rfl⟩)
        | (go_at_call 13; refine (checksum_any _ _ _ _ _ _ HB1.out (by omega)).mono ?_; rintro e w' ⟨rfl, rfl⟩)
        | (go_at_call 24; refine (rchecksum_any _ _ _ _ _ _ HB1.out (by omega)).mono ?_; rintro e w' ⟨rfl, rfl⟩)
        | fail)
      refine (wequal_any _ _ _ _ _ _ _ _ _ _ HB2.out HB1.out).mono ?_
      rintro e w' ⟨rfl, rfl⟩
      go_wp2_with fail
      refine (requal_any _ _ _ _ _ _ _ _ _ _ HB2.out HB1.out (by omega) (by omega)).mono ?_
      rintro e w' ⟨rfl, q, rfl⟩
      have I9 := I8.drewN q
      have HB3 := Lib.hid (I9.byt h1)
      go_wp2_with fail
      refine (wequal_any _ _ _ _ _ _ _ _ _ _ HB3.out HB3.out).mono ?_
      rintro e w' ⟨rfl, rfl⟩
      rw [eqB_refl]
      go_wp2_with fail
      go_ret
      exact ⟨rfl, I9.bel⟩

set_option maxRecDepth 100000 in
theorem wireExact_walk (A1 : Option Addr) (n1 c1 : Nat) (l1 : List Int) (A2 : Option Addr) (n2 c2 : Nat) (l2 : List Int) (x y z : Int) (A3 : Option Addr) (n3 c3 : Nat) (l3 : List Int) (w : World) (h1 : Byt w w.heap.size A1 n1 l1) (hc1 : n1 ≤ c1) (h2 : Byt w w.heap.size A2 n2 l2) (hc2 : n2 ≤ c2)
    (hx : (Lit.int .i64 x).wf = true) (hy : (Lit.int .i64 y).wf = true) (hz : (Lit.int .i64 z).wf = true) (h3 : Byt w w.heap.size A3 n3 l3) (hc3 : n3 ≤ c3) (hm3 : c3 ≤ maxLen) :
    Calls Try.prog 5 #[.slice A1 n1 c1, .slice A2 n2 c2, .int .i64 x, .int .i64 y, .int .i64 z, .slice A3 n3 c3] w fun e w' => e = .returned (.bool true) ∧ Below w.heap.size w w' := by
  by_cases hn : n1 ≤ 3000 ∧ n2 ≤ 3000
  · exact exact_small _ _ _ _ _ _ _ _ _ _ _ _ _ _ _ _ h1 h2 h3 hn.1 hn.2 hc1 hc3 (by unfold maxLen at hm3; omega) (wf_i64 hz).2
  · by_cases h1 : 3000 < n1
    · go_enter Try.func5, Try.ntmps5
      go_wp2_with (go_at_call 9; refine (awake4_any _).mono ?_; rintro e w1 ⟨rfl, hb1⟩)
      go_ret
      exact ⟨ret_bool (by simp), hb1⟩
    · have h2 : 3000 < n2 := by omega
      clear hn
      go_enter Try.func5, Try.ntmps5
      go_wp2_with (go_at_call 9; refine (awake4_any _).mono ?_; rintro e w1 ⟨rfl, hb1⟩)
      go_ret
      exact ⟨ret_bool (by simp; omega), hb1⟩
end Go.Proofs.Ytllaojnnackhhaa
