/-
  The walk of the law Ipv4Back.
-/
import Derived.Test.YtllaojnnackhhaaIpSame
import Derived.Test.YtllaojnnackhhaaDrawAddr
import Derived.Test.YtllaojnnackhhaaWireEx
import Derived.Test.YtllaojnnackhhaaFrame
namespace Go.Proofs.Ytllaojnnackhhaa
open Go.RowKit
set_option linter.unusedVariables false
set_option linter.unusedSimpArgs false

structure BackFacts (h : Hd) (d L : List Int) : Prop where
  e : encE h d = 0
  l : encL h d = L
  len : L.length = 20 + d.length
  de : decE L = 0
  dh : decH L = h
  dd : decD L = d
  pe : peekE (L ++ [1, 2]) = 0
  ph : peekH (L ++ [1, 2]) = h
  pn : peekN (L ++ [1, 2]) = L.length
theorem backFacts (h : Hd) (d : List Int) (hc : checkB h = true) (hok : h.Ok) (hd : d.length ≤ 1480) : ∃ L, BackFacts h d L := by
  obtain ⟨e, l⟩ := enc_back h d hc hd
  obtain ⟨a, b, c⟩ := dec_back h d hc hok hd
  have hl : (encL h d).length = 20 + d.length := by rw [l, List.length_append, hdB_len]
  obtain ⟨p1, p2, p3⟩ := peek_back h (20 + d.length) (d ++ [1, 2]) hc hok (by omega) (by omega)
  have e2 : encL h d ++ [1, 2] = hdB h (20 + d.length) ++ (d ++ [1, 2]) := by rw [l, List.append_assoc]
  exact ⟨_, e, rfl, hl, a, b, c, by rw [e2]; exact p1, by rw [e2]; exact p2, by rw [e2, p3, hl]; omega⟩

set_option maxRecDepth 100000 in
set_option maxHeartbeats 4000000 in
theorem back_small (A1 A2 : Option Addr) (n1 c1 n2 c2 : Nat) (l1 l2 : List Int) (w : World) (h1 : Byt w w.heap.size A1 n1 l1) (h2 : Byt w w.heap.size A2 n2 l2) (hc1 : n1 ≤ c1) (hm1 : (n1 : Int) ≤ 9223372036854775807) (hn2 : n2 ≤ 1480) :
    Calls Try.prog 6 #[.slice A1 n1 c1, .slice A2 n2 c2] w fun e w' => e = .returned (.bool true) ∧ Below w.heap.size w w' := by
  go_enter Try.func6, Try.ntmps6
  go_wp2_with fail
  refine (awake5_any _).mono ?_
  rintro e w1 ⟨rfl, hb1⟩
  go_wp2_with fail
  refine (new_any _ _ _ _ _ _ ((h1.below hb1).more hb1.size) hc1 hm1 (by omega) (by omega)).mono ?_
  rintro e w2 ⟨rfl, hC2, hb2, hs2⟩
  have I2 : Inv w w1.heap.size w2 := ⟨hb1.size, hb1.trans (hb2.mono hb1.size), hC2⟩
  clear hs2 hC2 hb2
  obtain ⟨cb, hcb⟩ : ∃ cb, w1.heap.size = cb := ⟨_, rfl⟩
  rw [hcb] at I2 ⊢
  clear hcb hb1
  go_wp2_with fail
  refine (next_any cb _ 256 I2.cod).mono ?_
  rintro e w3 ⟨tos, rfl, t0, _, t1, hC3, hg3, hs3⟩
  have t1 := t1 (by omega)
  have I3 := I2.next hC3 hg3
  clear hC3 hg3 hs3 I2
  go_wp2_with fail
  refine (next_any cb _ 65536 I3.cod).mono ?_
  rintro e w4 ⟨id, rfl, i0, _, i1, hC4, hg4, hs4⟩
  have i1 := i1 (by omega)
  have I4 := I3.next hC4 hg4
  clear hC4 hg4 hs4 I3
  go_wp2_with fail
  refine (next_any cb _ 256 I4.cod).mono ?_
  rintro e w5 ⟨ttl, rfl, l0, _, l1, hC5, hg5, hs5⟩
  have l1 := l1 (by omega)
  have I5 := I4.next hC5 hg5
  clear hC5 hg5 hs5 I4
  go_wp2_with fail
  refine (next_any cb _ 256 I5.cod).mono ?_
  rintro e w6 ⟨proto, rfl, p0, _, p1, hC6, hg6, hs6⟩
  have p1 := p1 (by omega)
  have I6 := I5.next hC6 hg6
  clear hC6 hg6 hs6 I5
  go_wp2_with fail
  refine (next_any cb _ 2 I6.cod).mono ?_
  rintro e w7 ⟨kp, rfl, k0, _, k1, hC7, hg7, hs7⟩
  have I7 := I6.next hC7 hg7
  clear hC7 hg7 hs7 I6 k0 k1
  go_wp2_with fail
  refine (address_any cb _ I7.cod).mono ?_
  rintro e w8 ⟨src, rfl, s0, s1, hC8, hg8, hs8⟩
  have I8 := I7.next hC8 hg8
  clear hC8 hg8 hs8 I7
  go_wp2_with fail
  refine (address_any cb _ I8.cod).mono ?_
  rintro e w9 ⟨dst, rfl, d0, d1, hC9, hg9, hs9⟩
  have I9 := I8.next hC9 hg9
  clear hC9 hg9 hs9 I8
  obtain ⟨keep, hkeep⟩ : ∃ b : Bool, (kp == 1) = b := ⟨_, rfl⟩
  go_upto_region 5 with fail
  have hok : Hd.Ok ⟨tos, id, ttl, proto, keep, src, dst⟩ := ⟨s0, s1, d0, d1⟩
  have hl2 := h2.len
  obtain ⟨L, F⟩ := backFacts ⟨tos, id, ttl, proto, keep, src, dst⟩ l2 (checkB_iff.2 ⟨⟨t0, t1⟩, ⟨l0, l1⟩, ⟨p0, p1⟩, ⟨i0, i1⟩⟩) hok (by omega)
  have P10 := Blk.new w9 48 #[.int .i64 tos, .int .i64 id, .int .i64 ttl, .int .i64 proto, .bool keep, .int .u32 src, .int .u32 dst, .slice A2 n2 c2]
  have h10 := (I9.byt h2).alloc (Nat.le_refl _) (.cells #[.int .i64 tos, .int .i64 id, .int .i64 ttl, .int .i64 proto, .bool keep, .int .u32 src, .int .u32 dst, .slice A2 n2 c2] 48)
  have W10 := I9.bel.alloc I9.bel.size (.cells #[.int .i64 tos, .int .i64 id, .int .i64 ttl, .int .i64 proto, .bool keep, .int .u32 src, .int .u32 dst, .slice A2 n2 c2] 48)
  have z10 : w.heap.size ≤ w9.heap.size := I9.bel.size
  clear hkeep t0 t1 i0 i1 l0 l1 p0 p1 s0 s1 d0 d1 I9 h1 h2 hm1
  generalize w9.alloc (.cells #[.int .i64 tos, .int .i64 id, .int .i64 ttl, .int .i64 proto, .bool keep, .int .u32 src, .int .u32 dst, .slice A2 n2 c2] 48) = w10 at *
  generalize w9.heap.size = g6 at *
  have HF := Lib.hid F
  clear F
  have c10 := P10.cell
  go_wp2_with fail
  refine (encode_any ⟨tos, id, ttl, proto, keep, src, dst⟩ hok A2 n2 c2 l2 _ (h10.more (Nat.le_of_lt P10.lt)) (by omega)).mono ?_
  rintro e w11 ⟨A3, m3, c3, rfl, hc3, hb3, W11⟩
  rw [HF.out.l] at hb3
  rw [HF.out.e]
  have hm3 : m3 = 20 + n2 := by have := hb3.len; have := HF.out.len; omega
  have HM3 := Lib.hid hm3
  clear hm3
  have P11 := P10.below W11 P10.lt
  have h11 := h10.below (W11.mono (Nat.le_of_lt P10.lt))
  replace W11 := W10.trans (W11.mono W10.size)
  clear P10 h10 c10 W10
  have c11 := P11.cell
  go_wp2_with fail
  refine (decode_any _ _ _ L _ hb3 hc3 (by rw [HM3.out]; omega)).mono ?_
  rintro e w12 ⟨A4, m4, c4, rfl, hc4, hb4, W12⟩
  rw [HF.out.de, HF.out.dh]
  rw [HF.out.dd] at hb4
  have hm4 : m4 ≤ 1480 := by have := hb4.len; omega
  have P12 := P11.below W12 P11.lt
  have h12 := h11.below (W12.mono (Nat.le_of_lt P11.lt))
  have b12 := hb3.below W12
  have Q12 := Blk.new w12 48 #[.int .i64 tos, .int .i64 id, .int .i64 ttl, .int .i64 proto, .bool keep, .int .u32 src, .int .u32 dst, .slice A4 m4 c4]
  have P13 := P12.alloc (.cells #[.int .i64 tos, .int .i64 id, .int .i64 ttl, .int .i64 proto, .bool keep, .int .u32 src, .int .u32 dst, .slice A4 m4 c4] 48)
  have h13 := h12.alloc (Nat.le_of_lt P12.lt) (.cells #[.int .i64 tos, .int .i64 id, .int .i64 ttl, .int .i64 proto, .bool keep, .int .u32 src, .int .u32 dst, .slice A4 m4 c4] 48)
  have b13 := b12.alloc W12.size (.cells #[.int .i64 tos, .int .i64 id, .int .i64 ttl, .int .i64 proto, .bool keep, .int .u32 src, .int .u32 dst, .slice A4 m4 c4] 48)
  have d13 := hb4.alloc (Nat.le_refl _) (.cells #[.int .i64 tos, .int .i64 id, .int .i64 ttl, .int .i64 proto, .bool keep, .int .u32 src, .int .u32 dst, .slice A4 m4 c4] 48)
  have W13 := (W11.trans (W12.mono W11.size)).alloc (W11.trans (W12.mono W11.size)).size (.cells #[.int .i64 tos, .int .i64 id, .int .i64 ttl, .int .i64 proto, .bool keep, .int .u32 src, .int .u32 dst, .slice A4 m4 c4] 48)
  have z13 : w11.heap.size ≤ w12.heap.size := W12.size
  have z11 : g6 < w11.heap.size := P11.lt
  clear c11 W12 P12 h12 b12 P11 h11 hb3 W11 hb4
  go_upto_region 7 with fail
  generalize w12.alloc (.cells #[.int .i64 tos, .int .i64 id, .int .i64 ttl, .int .i64 proto, .bool keep, .int .u32 src, .int .u32 dst, .slice A4 m4 c4] 48) = w13 at *
  obtain ⟨g9, hg9⟩ : ∃ g, w12.heap.size = g := ⟨_, rfl⟩
  rw [hg9] at Q12 d13 z13 ⊢
  clear hg9
  have hne : g6 < g9 := by omega
  replace b13 := b13.more (Nat.le_trans z13 (Nat.le_of_lt Q12.lt))
  replace d13 := d13.more (Nat.le_of_lt Q12.lt)
  replace h13 := h13.more (Nat.le_of_lt P13.lt)
  have c13 := Q12.cell
  go_wp2_with fail
  refine (encode_any ⟨tos, id, ttl, proto, keep, src, dst⟩ hok A4 m4 c4 l2 _ d13 (by omega)).mono ?_
  rintro e w14 ⟨A5, m5, c5, rfl, hc5, hb5, W14⟩
  rw [HF.out.l] at hb5
  rw [HF.out.e]
  have P14 := P13.below W14 P13.lt
  have Q14 := Q12.below W14 Q12.lt
  have h14 := (h13.below W14).more W14.size
  have b14 := (b13.below W14).more W14.size
  have d14 := (d13.below W14).more W14.size
  replace W14 := W13.trans (W14.mono W13.size)
  clear P13 Q12 h13 b13 d13 W13 c13
  go_upto_region 8 with fail
  have hm3 : m3 ≤ 2000 := by rw [HM3.out]; omega
  go_wp2_with (first
    | (at_builtin
       refine wpList_app rfl (.const (.slice none 0 0)) (.tmp 62) _ rfl elU8 w14.heap.size none 0 0 [] rfl (World.ownsRow_nil _ _ _ _) _ A3 m3 c3 (bv L) rfl b14.1 (bv_one _) (by omega) (Nat.le_refl _) m3 (by omega) ?_
       intro A6 c6 w15 hc6 hm6 hown6 hb6 hg6
       rw [List.nil_append] at hown6)
    | (at_builtin
       refine wpList_app rfl (.tmp 63) (.tmp 64) _ rfl elU8 w14.heap.size A6 m3 c6 (bv L) rfl (own_below hown6 ((Below.refl _ _).alloc (Nat.le_refl _) _)) _ (some ⟨w15.heap.size, 0, none⟩) 2 2 (bv [1, 2]) rfl (reads_new w15 _ _ 1 2 rfl) (bv_one _) (by omega) (by have := hb6.size; simp; omega) (m3 + 2) rfl ?_
       intro A7 c7 w16 hc7 hm7 hown7 hb7 hg7)
    | fail)
  have hbs : Bs (L ++ [1, 2]) := b14.2.app (by intro x hx; simp at hx; omega)
  have hL7 : Byt w16 w16.heap.size A7 (m3 + 2) (L ++ [1, 2]) := byt_own (by rw [bv_app]; exact hown7) hbs
  have W16 : Below w14.heap.size w14 w16 := (hb6.alloc hb6.size _).trans hb7
  refine (peek_any _ _ _ _ _ hL7 hc7 (by omega)).mono ?_
  rintro e w17 ⟨rfl, W17⟩
  rw [HF.out.pe, HF.out.ph, HF.out.pn, b14.len]
  have V17 := W16.trans (W17.mono W16.size)
  have P17 := P14.below V17 P14.lt
  have Q17 := Q14.below V17 Q14.lt
  have h17 := h14.below V17
  have b17 := b14.below V17
  have d17 := d14.below V17
  have e17 := hb5.below V17
  have Y17 := W14.trans (V17.mono W14.size)
  have z17 := V17.size
  have q17 := Q17.lt
  have p17 := P17.lt
  clear P14 Q14 h14 b14 d14 hb5 W14 hown6 hb6 hg6 hown7 hb7 hg7 hL7 W16 W17
  have P18 := P17.alloc (.cells #[.int .i64 tos, .int .i64 id, .int .i64 ttl, .int .i64 proto, .bool keep, .int .u32 src, .int .u32 dst] 46)
  have Q18 := Q17.alloc (.cells #[.int .i64 tos, .int .i64 id, .int .i64 ttl, .int .i64 proto, .bool keep, .int .u32 src, .int .u32 dst] 46)
  have R18 := Blk.new w17 46 #[.int .i64 tos, .int .i64 id, .int .i64 ttl, .int .i64 proto, .bool keep, .int .u32 src, .int .u32 dst]
  have h18 := h17.alloc z17 (.cells #[.int .i64 tos, .int .i64 id, .int .i64 ttl, .int .i64 proto, .bool keep, .int .u32 src, .int .u32 dst] 46)
  have b18 := b17.alloc z17 (.cells #[.int .i64 tos, .int .i64 id, .int .i64 ttl, .int .i64 proto, .bool keep, .int .u32 src, .int .u32 dst] 46)
  have d18 := d17.alloc z17 (.cells #[.int .i64 tos, .int .i64 id, .int .i64 ttl, .int .i64 proto, .bool keep, .int .u32 src, .int .u32 dst] 46)
  have e18 := e17.alloc z17 (.cells #[.int .i64 tos, .int .i64 id, .int .i64 ttl, .int .i64 proto, .bool keep, .int .u32 src, .int .u32 dst] 46)
  have Y18 := Y17.alloc Y17.size (.cells #[.int .i64 tos, .int .i64 id, .int .i64 ttl, .int .i64 proto, .bool keep, .int .u32 src, .int .u32 dst] 46)
  clear P17 Q17 h17 b17 d17 e17 Y17 V17
  simp only [hv, hcells]
  go_upto_region 9 with fail
  generalize w17.alloc (.cells #[.int .i64 tos, .int .i64 id, .int .i64 ttl, .int .i64 proto, .bool keep, .int .u32 src, .int .u32 dst] 46) = w18 at *
  obtain ⟨g13, hg13⟩ : ∃ g, w17.heap.size = g := ⟨_, rfl⟩
  rw [hg13] at R18 z17 q17 p17 ⊢
  clear hg13
  have r18 := R18.lt
  have cP := P18.cell
  have cQ := Q18.cell
  have cR := R18.cell
  go_wp2_with fail
  refine (same_any ⟨tos, id, ttl, proto, keep, src, dst⟩ A2 n2 c2 l2 A4 m4 c4 l2 _ (h18.more (by omega)) (d18.more (by omega)) (by omega) (by omega)).mono ?_
  rintro e w19 ⟨rfl, W19⟩
  have P19 := P18.below W19 P18.lt
  have R19 := R18.below W19 R18.lt
  have b19 := (b18.more (by omega : w14.heap.size ≤ w18.heap.size)).below W19
  have e19 := (e18.more (by omega : w14.heap.size ≤ w18.heap.size)).below W19
  have Y19 := Y18.trans (W19.mono Y18.size)
  clear P18 Q18 R18 h18 b18 d18 e18 cP cQ cR
  have cP := P19.cell
  have cR := R19.cell
  rw [eqB_refl]
  go_wp2_with fail
  refine (wequal_any _ _ _ _ _ _ _ _ _ _ b19 e19).mono ?_
  rintro e w20 ⟨rfl, rfl⟩
  rw [eqB_refl]
  go_wp2_with fail
  go_ret
  exact ⟨rfl, Y19⟩
theorem ipv4Back_walk (A1 : Option Addr) (n1 c1 : Nat) (l1 : List Int) (A2 : Option Addr) (n2 c2 : Nat) (l2 : List Int) (w : World) (h1 : Byt w w.heap.size A1 n1 l1) (hc1 : n1 ≤ c1) (hm1 : c1 ≤ maxLen) (h2 : Byt w w.heap.size A2 n2 l2) (hc2 : n2 ≤ c2) :
    Calls Try.prog 6 #[.slice A1 n1 c1, .slice A2 n2 c2] w fun e w' => e = .returned (.bool true) ∧ Below w.heap.size w w' := by
  by_cases hn : n2 ≤ 1480
  · exact back_small _ _ _ _ _ _ _ _ _ h1 h2 hc1 (by unfold maxLen at hm1; omega) hn
  · have h2 : 1480 < n2 := by omega
    clear hn
    go_enter Try.func6, Try.ntmps6
    go_wp2_with (go_at_call 27; refine (awake5_any _).mono ?_; rintro e w1 ⟨rfl, hb1⟩)
    go_ret
    exact ⟨ret_bool (by simp), hb1⟩
end Go.Proofs.Ytllaojnnackhhaa
