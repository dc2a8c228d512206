/-
  The walk of the law Ipv4Lowers.
-/
import Derived.Test.YtllaojnnackhhaaIpSame
import Derived.Test.YtllaojnnackhhaaIpLowLaw
import Derived.Test.YtllaojnnackhhaaDrawAddr
import Derived.Test.YtllaojnnackhhaaFrame
import Derived.Test.YtllaojnnackhhaaWireEx
namespace Go.Proofs.Ytllaojnnackhhaa
open Go.RowKit
set_option linter.unusedVariables false
set_option linter.unusedSimpArgs false

/-- bytes do not lie in a block that holds no byte -/
theorem byt_apart {w : World} {B n g : Nat} {A : Option Addr} {l : List Int} {t : TypeId} {cs : Array Value} (h : Byt w B A n l) (hb : Blk w g t cs) (hcs : ∀ (i : Nat) (x : Int), cs[i]? ≠ some (Value.int .u8 x)) (ad : Addr) (hA : A = some ad) (hn : 0 < n) : ad.block ≠ g := by
  subst hA
  obtain ⟨b, o, x, hA, _, _, _, _, hc⟩ := h.at' hn
  injection hA with hA
  subst hA
  rintro rfl
  rw [Nat.add_zero, hb.cell o] at hc
  exact hcs _ _ hc
theorem byt_set_far {w : World} {B n g : Nat} {A : Option Addr} {l : List Int} {t : TypeId} {cs : Array Value} (h : Byt w B A n l) (hb : Blk w g t cs) (hcs : ∀ (i : Nat) (x : Int), cs[i]? ≠ some (Value.int .u8 x)) (i : Nat) (u : Value) : Byt (w.setCell ⟨g, i, none⟩ u) B A n l := by
  refine ⟨⟨h.1.1, fun hn => ?_⟩, h.2⟩
  obtain ⟨ad, hA, hB, hc⟩ := h.1.2 hn
  refine ⟨ad, hA, hB, fun j v hv => ?_⟩
  rw [World.cell?_setCell_other]
  · exact hc j v hv
  · intro e
    have := byt_apart (h : Byt w B A n l) hb hcs ad hA hn
    rw [← block_of_add ad j] at this
    first | exact this (by rw [← e]) | exact this (by rw [e])
theorem packet_no_u8 (tos id ttl proto : Int) (keep : Bool) (src dst : Int) (A : Option Addr) (n c : Nat) (i : Nat) (x : Int) : (#[Value.int .i64 tos, .int .i64 id, .int .i64 ttl, .int .i64 proto, .bool keep, .int .u32 src, .int .u32 dst, .slice A n c] : Array Value)[i]? ≠ some (.int .u8 x) := by
  match i with
  | 0 => simp
  | 1 => simp
  | 2 => simp
  | 3 => simp
  | 4 => simp
  | 5 => simp
  | 6 => simp
  | 7 => simp
  | i + 8 => simp
set_option maxRecDepth 100000 in
set_option maxHeartbeats 4000000 in
theorem lows_small (A1 A2 : Option Addr) (n1 c1 n2 c2 : Nat) (l1 l2 : List Int) (times : Int) (w : World) (h1 : Byt w w.heap.size A1 n1 l1) (h2 : Byt w w.heap.size A2 n2 l2) (hc1 : n1 ≤ c1) (hm1 : (n1 : Int) ≤ 9223372036854775807) (hn2 : n2 ≤ 200) (hx0 : 0 ≤ times) (hx1 : times ≤ 255) :
    Calls Try.prog 8 #[.slice A1 n1 c1, .slice A2 n2 c2, .int .u8 times] w fun e w' => e = .returned (.bool true) ∧ Below w.heap.size w w' := by
  have hl2 := h2.len
  have HF : Hid (∀ (id ttl proto src dst : Int), 0 ≤ id → id < 65536 → 0 ≤ ttl → ttl < 256 → 0 ≤ proto → proto < 256 → 0 ≤ src → src ≤ 4294967295 → 0 ≤ dst → dst ≤ 4294967295 → LowFacts ⟨0, id, ttl, proto, false, src, dst⟩ l2) := by
    intro id ttl proto src dst i0 i1 t0 t1 p0 p1 s0 s1 d0 d1
    exact lowFacts ⟨0, id, ttl, proto, false, src, dst⟩ l2 (checkB_iff.2 ⟨⟨by omega, by omega⟩, ⟨t0, t1⟩, ⟨p0, p1⟩, ⟨i0, i1⟩⟩) ⟨s0, s1, d0, d1⟩ (by omega)
  go_enter Try.func8, Try.ntmps8
  go_wp2_with fail
  refine (awake5_any _).mono ?_
  rintro e w1 ⟨rfl, hb1⟩
  go_wp2_with fail
  refine (new_any _ _ _ _ _ _ ((h1.below hb1).more hb1.size) hc1 hm1 (by omega) (by omega)).mono ?_
  rintro e w2 ⟨rfl, hC2, hb2, hs2⟩
  have I2 : Inv w w1.heap.size w2 := ⟨hb1.size, hb1.trans (hb2.mono hb1.size), hC2⟩
  clear hs2 hC2 hb2
  obtain ⟨cb, hcb⟩ : ∃ cb, w1.heap.size = cb := ⟨_, rfl⟩
  rw [hcb] at I2 ⊢
  clear hcb hb1
  go_wp2_with fail
  refine (next_any cb _ 65536 I2.cod).mono ?_
  rintro e w4 ⟨id, rfl, i0, _, i1, hC4, hg4, hs4⟩
  have i1 := i1 (by omega)
  have I4 := I2.next hC4 hg4
  clear hC4 hg4 hs4 I2
  go_wp2_with fail
  refine (next_any cb _ 256 I4.cod).mono ?_
  rintro e w5 ⟨ttl, rfl, t0, _, t1, hC5, hg5, hs5⟩
  have t1 := t1 (by omega)
  have I5 := I4.next hC5 hg5
  clear hC5 hg5 hs5 I4
  go_wp2_with fail
  refine (next_any cb _ 256 I5.cod).mono ?_
  rintro e w6 ⟨proto, rfl, p0, _, p1, hC6, hg6, hs6⟩
  have p1 := p1 (by omega)
  have I7 := I5.next hC6 hg6
  clear hC6 hg6 hs6 I5
  go_wp2_with fail
  refine (address_any cb _ I7.cod).mono ?_
  rintro e w8 ⟨src, rfl, s0, s1, hC8, hg8, hs8⟩
  have I8 := I7.next hC8 hg8
  clear hC8 hg8 hs8 I7
  go_wp2_with fail
  refine (address_any cb _ I8.cod).mono ?_
  rintro e w9 ⟨dst, rfl, d0, d1, hC9, hg9, hs9⟩
  have I9 := I8.next hC9 hg9
  clear hC9 hg9 hs9 I8
  go_upto_region 5 with fail
  have HL := Lib.hid (fun (t : Int) a b => HF.out id t proto src dst i0 i1 a b p0 p1 s0 s1 d0 d1)
  have HO : Hid (∀ t : Int, Hd.Ok ⟨0, id, t, proto, false, src, dst⟩) := fun t => ⟨s0, s1, d0, d1⟩
  have P10 := Blk.new w9 48 #[.int .i64 0, .int .i64 id, .int .i64 ttl, .int .i64 proto, .bool false, .int .u32 src, .int .u32 dst, .slice A2 n2 c2]
  have h10 := (I9.byt h2).alloc (Nat.le_refl _) (.cells #[.int .i64 0, .int .i64 id, .int .i64 ttl, .int .i64 proto, .bool false, .int .u32 src, .int .u32 dst, .slice A2 n2 c2] 48)
  have W10 := I9.bel.alloc I9.bel.size (.cells #[.int .i64 0, .int .i64 id, .int .i64 ttl, .int .i64 proto, .bool false, .int .u32 src, .int .u32 dst, .slice A2 n2 c2] 48)
  have z10 : w.heap.size ≤ w9.heap.size := I9.bel.size
  clear i0 i1 p0 p1 s0 s1 d0 d1 I9 h1 h2 hm1 HF
  generalize w9.alloc (.cells #[.int .i64 0, .int .i64 id, .int .i64 ttl, .int .i64 proto, .bool false, .int .u32 src, .int .u32 dst, .slice A2 n2 c2] 48) = w10 at *
  generalize w9.heap.size = g6 at *
  have c10 := P10.cell
  go_wp2_with fail
  refine (encode_any ⟨0, id, ttl, proto, false, src, dst⟩ (HO.out _) A2 n2 c2 l2 _ (h10.more (Nat.le_of_lt P10.lt)) (by omega)).mono ?_
  rintro e w11 ⟨A3, m3, c3, rfl, hc3, hb3, W11⟩
  rw [(HL.out ttl t0 t1).e]
  have P11 := P10.below W11 P10.lt
  have h11 := h10.below (W11.mono (Nat.le_of_lt P10.lt))
  replace W11 := W10.trans (W11.mono W10.size)
  clear P10 h10 c10 W10
  go_wp2_with fail
  go_loopw [9, 10, 11] (fun sb se si wr => ∃ (t : Int) (A : Option Addr) (m c : Nat) (k : Nat), 0 ≤ t ∧ t < 256 ∧ m ≤ c ∧ k ≤ 12 ∧ sb = .slice A m c ∧ se = .int .i64 0 ∧ si = .int .i64 k ∧ Byt wr wr.heap.size A m (encL ⟨0, id, t, proto, false, src, dst⟩ l2) ∧ Blk wr g6 48 #[.int .i64 0, .int .i64 id, .int .i64 t, .int .i64 proto, .bool false, .int .u32 src, .int .u32 dst, .slice A2 n2 c2] ∧ Byt wr g6 A2 n2 l2 ∧ Below w.heap.size w wr) (fun _ _ si _ => 12 - (intOf si).toNat)
  case atStart => exact ⟨ttl, A3, m3, c3, 0, t0, t1, hc3, by omega, rfl, rfl, rfl, hb3, P11, h11, W11⟩
  case round =>
    clear P11 h11 W11 hb3 t0 t1 hc3
    obtain ⟨ttl, A3, m3, c3, k, t0, t1, hc3, hk, rfl, rfl, rfl, hb3, P11, h11, W11⟩ := hrel
    have F := HL.out ttl t0 t1
    have HM : Hid (m3 = 20 + n2) := by have := hb3.len; have := F.len; exact (by omega : m3 = 20 + n2)
    have hm3 : m3 ≤ 1000 := by have := HM.out; omega
    replace F := Lib.hid F
    by_cases hlt : (k : Int) < times % 12
    · have hk2 : k < 12 := by omega
      go_wp2_with fail
      refine (lower_any _ _ _ _ _ hb3 hc3 (by omega)).mono ?_
      rintro e w12 ⟨A4, m4, c4, rfl, hc4, hb4, W12⟩
      have P12 := P11.below W12 P11.lt
      have c12 := P12.cell
      have f12 := P12.frozen
      by_cases ht : ttl < 2
      · have hle : lowE (encL ⟨0, id, ttl, proto, false, src, dst⟩ l2) = 7 := by rw [F.out.le]; exact if_pos ht
        rw [F.out.ll ht] at hb4
        have hm4 : m4 = 0 := hb4.len.symm
        rw [hle]
        subst hm4
        clear hle F
        go_wp2_with fail
        go_ret
        exact ⟨rfl, W11.trans (W12.mono W11.size)⟩
      · have hle : lowE (encL ⟨0, id, ttl, proto, false, src, dst⟩ l2) = 0 := by rw [F.out.le]; exact if_neg ht
        have F' := HL.out (ttl - 1) (by omega) (by omega)
        rw [show lowL (encL ⟨0, id, ttl, proto, false, src, dst⟩ l2) = encL ⟨0, id, ttl - 1, proto, false, src, dst⟩ l2 from F.out.lx ht] at hb4
        have hup : updF (getV (encL ⟨0, id, ttl, proto, false, src, dst⟩ l2) 10 2) (getV (encL ⟨0, id, ttl, proto, false, src, dst⟩ l2) 8 2) (getV (encL ⟨0, id, ttl - 1, proto, false, src, dst⟩ l2) 8 2) = getV (encL ⟨0, id, ttl - 1, proto, false, src, dst⟩ l2) 10 2 := F.out.up ht
        have hm4 : m4 = m3 := by have := hb4.len; have := F'.len; have := HM.out; omega
        rw [hle]
        subst hm4
        have HU := Lib.hid hup
        have HE := Lib.hid F'.e
        have HB3 := Lib.hid (hb3.below W12)
        have HB4 := Lib.hid hb4
        clear hle F hup F' hb3 hb4
        go_wp2_with fail
        refine (get_any _ _ _ _ _ _ HB3.out hc3 (by omega) _ _).mono ?_
        rintro e w' ⟨rfl, rfl⟩
        go_wp2_with fail
        refine (get_any _ _ _ _ _ _ HB3.out hc3 (by omega) _ _).mono ?_
        rintro e w' ⟨rfl, rfl⟩
        go_wp2_with fail
        refine (get_any _ _ _ _ _ _ HB4.out hc4 (by omega) _ _).mono ?_
        rintro e w' ⟨rfl, rfl⟩
        go_wp2_with fail
        refine (get_any _ _ _ _ _ _ HB4.out hc4 (by omega) _ _).mono ?_
        rintro e w' ⟨rfl, rfl⟩
        go_wp2_with fail
        refine (update_any _ _ _ _).mono ?_
        rintro e w' ⟨rfl, rfl⟩
        rw [HU.out]
        have P13 := P12.set_ 2 (.int .i64 (ttl - 1))
        simp at P13
        have h13 : Byt (w12.setCell ⟨g6, 2, none⟩ (.int .i64 (ttl - 1))) g6 A2 n2 l2 := ⟨(h11.below (W12.mono (Nat.le_of_lt P11.lt))).1.setCell (Nat.le_refl _) _, h11.2⟩
        have W13 := (W11.trans (W12.mono W11.size)).setCell (p := ⟨g6, 2, none⟩) z10 (.int .i64 (ttl - 1))
        have hsz : w12.heap.size ≤ (w12.setCell ⟨g6, 2, none⟩ (.int .i64 (ttl - 1))).heap.size := by simp
        have hb13 : Byt (w12.setCell ⟨g6, 2, none⟩ (.int .i64 (ttl - 1))) w12.heap.size A4 m4 (encL ⟨0, id, ttl - 1, proto, false, src, dst⟩ l2) := byt_set_far HB4.out P12 (packet_no_u8 _ _ _ _ _ _ _ _ _ _) 2 _
        clear P11 h11 P12 W11 W12
        clear HB3 HB4 HU
        go_upto_region 23 with fail
        generalize w12.setCell ⟨g6, 2, none⟩ (.int .i64 (ttl - 1)) = w13 at *
        clear c12 f12
        have c13 := P13.cell
        go_wp2_with fail
        refine (encode_any ⟨0, id, ttl - 1, proto, false, src, dst⟩ (HO.out _) A2 n2 c2 l2 _ (h13.more (Nat.le_of_lt P13.lt)) (by omega)).mono ?_
        rintro e w14 ⟨A5, m5, c5, rfl, hc5, hb5, W14⟩
        rw [HE.out]
        have P14 := P13.below W14 P13.lt
        have h14 := h13.below (W14.mono (Nat.le_of_lt P13.lt))
        have hsz2 := W14.size
        have hb14 := (hb13.more (by first | exact Nat.le_refl _ | exact hsz)).below W14
        replace W14 := W13.trans (W14.mono W13.size)
        clear P13 h13 hb13 W13 c13
        go_wp2_with fail
        refine (wequal_any _ _ _ _ _ _ _ _ _ _ hb5 (hb14.more (by first | exact hsz2))).mono ?_
        rintro e w15 ⟨rfl, rfl⟩
        rw [eqB_refl]
        go_wp2_with fail
        go_roundw
        case rel => exact ⟨ttl - 1, A5, m5, c5, k + 1, by omega, by omega, hc5, by omega, rfl, rfl, by go_num, hb5, P14, h14, W14⟩
        case measure => simp [intOf]; omega
    · go_wp2_with fail
      go_ret
      exact ⟨rfl, W11⟩
theorem ipv4Lowers_walk (A1 : Option Addr) (n1 c1 : Nat) (l1 : List Int) (A2 : Option Addr) (n2 c2 : Nat) (l2 : List Int) (x : Int) (w : World) (h1 : Byt w w.heap.size A1 n1 l1) (hc1 : n1 ≤ c1) (hm1 : c1 ≤ maxLen) (h2 : Byt w w.heap.size A2 n2 l2) (hc2 : n2 ≤ c2) (hx : (Lit.int .u8 x).wf = true) :
    Calls Try.prog 8 #[.slice A1 n1 c1, .slice A2 n2 c2, .int .u8 x] w fun e w' => e = .returned (.bool true) ∧ Below w.heap.size w w' := by
  by_cases hn : n2 ≤ 200
  · exact lows_small _ _ _ _ _ _ _ _ _ _ h1 h2 hc1 (by unfold maxLen at hm1; omega) hn (wf_u8 hx).1 (wf_u8 hx).2
  · have h2 : 200 < n2 := by omega
    clear hn
    go_enter Try.func8, Try.ntmps8
    go_wp2_with (go_at_call 27; refine (awake5_any _).mono ?_; rintro e w1 ⟨rfl, hb1⟩)
    go_ret
    exact ⟨ret_bool (by simp), hb1⟩
end Go.Proofs.Ytllaojnnackhhaa
