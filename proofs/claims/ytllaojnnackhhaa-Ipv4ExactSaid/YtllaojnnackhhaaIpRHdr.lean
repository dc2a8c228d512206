/-
  The walks of the references' Push, At, header and Encode.
-/
import Derived.Test.YtllaojnnackhhaaIpEnc
import Derived.Test.YtllaojnnackhhaaWireAny
namespace Go.Proofs.Ytllaojnnackhhaa
open Go.RowKit
set_option linter.unusedVariables false
set_option linter.unusedSimpArgs false

theorem rpush_ok (A : Option Addr) (n c : Nat) (l : List Int) (w : World) (hl : Byt w w.heap.size A n l) (hn : n ≤ 100000000) (x : Int) (k : Nat) (hx0 : 0 ≤ x) (hk1 : 1 ≤ k) (hk7 : k ≤ 7) (hx1 : x < 256 ^ k) :
    Calls Try.prog 51 #[.slice A n c, .int .i64 x, .int .i64 k] w (Made (l ++ enc x k) w) := by
  go_enter Try.func51, Try.ntmps51
  go_wp2_with fail
  refine (rput_ok _ _ _ _ _ hl hn _ _ hx0 hk1 hk7 hx1).mono ?_
  rintro e w1 ⟨A1, m1, c1, rfl, hc1, hm1, hown1, hb1⟩
  go_wp2_with fail
  go_ret
  exact ⟨A1, m1, c1, rfl, hc1, hm1, hown1, hb1⟩
theorem push1 (A : Option Addr) (n c : Nat) (l : List Int) (w : World) (hl : Byt w w.heap.size A n l) (hn : n ≤ 100000000) (x : Int) (hx0 : 0 ≤ x) (hx1 : x < 256) :
    Calls Try.prog 51 #[.slice A n c, .int .i64 x, .int .i64 1] w (Made (l ++ enc x 1) w) := rpush_ok A n c l w hl hn x 1 hx0 (by omega) (by omega) hx1
theorem push2 (A : Option Addr) (n c : Nat) (l : List Int) (w : World) (hl : Byt w w.heap.size A n l) (hn : n ≤ 100000000) (x : Int) (hx0 : 0 ≤ x) (hx1 : x < 65536) :
    Calls Try.prog 51 #[.slice A n c, .int .i64 x, .int .i64 2] w (Made (l ++ enc x 2) w) := rpush_ok A n c l w hl hn x 2 hx0 (by omega) (by omega) hx1
theorem push4 (A : Option Addr) (n c : Nat) (l : List Int) (w : World) (hl : Byt w w.heap.size A n l) (hn : n ≤ 100000000) (x : Int) (hx0 : 0 ≤ x) (hx1 : x < 4294967296) :
    Calls Try.prog 51 #[.slice A n c, .int .i64 x, .int .i64 4] w (Made (l ++ enc x 4) w) := rpush_ok A n c l w hl hn x 4 hx0 (by omega) (by omega) hx1
theorem rat_any (A : Option Addr) (n c : Nat) (l : List Int) (w : World) (B : Nat) (hl : Byt w B A n l) (hn : n ≤ c) (hm : n ≤ 140737488355328) (p k : Int) (hp : p ≤ 9223372036854775807) :
    Calls Try.prog 50 #[.slice A n c, .int .i64 p, .int .i64 k] w fun e w' => e = .returned (.int .i64 (getV l p k)) ∧ w = w' := by
  go_enter Try.func50, Try.ntmps50
  go_wp2_with fail
  refine (rget_any _ _ _ _ _ _ hl hn hm _ _ hp).mono ?_
  rintro e w' ⟨rfl, rfl⟩
  go_wp2_with fail
  go_ret
  exact ⟨rfl, rfl⟩

set_option maxRecDepth 100000 in
set_option maxHeartbeats 400000 in
theorem header_true (tos id ttl proto src dst len : Int) (w : World) (h1 : (0 ≤ tos ∧ tos < 256) ∧ (0 ≤ ttl ∧ ttl < 256) ∧ (0 ≤ proto ∧ proto < 256) ∧ (0 ≤ id ∧ id < 65536)) (hs0 : 0 ≤ src) (hs1 : src < 4294967296) (hd0 : 0 ≤ dst) (hd1 : dst < 4294967296) (hl0 : 0 ≤ len) (hl1 : len < 65536) :
    Calls Try.prog 48 #[.agg #[.int .i64 tos, .int .i64 id, .int .i64 ttl, .int .i64 proto, .bool true, .int .u32 src, .int .u32 dst], .int .i64 len] w (Made (hdB ⟨tos, id, ttl, proto, true, src, dst⟩ len) w) := by
  have H1 := Lib.hid h1
  clear h1
  have B1 : Blk (w.alloc (.cells #[.int .i64 tos, .int .i64 id, .int .i64 ttl, .int .i64 proto, .bool true, .int .u32 src, .int .u32 dst] 46)) w.heap.size 46 #[.int .i64 tos, .int .i64 id, .int .i64 ttl, .int .i64 proto, .bool true, .int .u32 src, .int .u32 dst] := Blk.new _ _ _
  have W1 : Below w.heap.size w (w.alloc (.cells #[.int .i64 tos, .int .i64 id, .int .i64 ttl, .int .i64 proto, .bool true, .int .u32 src, .int .u32 dst] 46)) := (Below.refl _ _).alloc (Nat.le_refl _) _
  go_enter Try.func48, Try.ntmps48
  go_wp2_with fail
  refine (push1 _ _ _ _ _ (Byt.none_ _ _) (by omega) _ (by omega) (by omega)).mono ?_
  rintro e w2 ⟨A2, m2, c2, rfl, hc2, hm2, hown2, hb2⟩
  have hB2 : Byt w2 w2.heap.size A2 m2 (enc 69 1) := byt_own (by simpa using hown2) (enc_bs _ _)
  have B2 := B1.below hb2 B1.lt
  have W2 := W1.trans (hb2.mono W1.size)
  have d2 := B2.cell
  clear hown2 hb2 hm2 B1 W1
  go_wp2_with fail
  refine (push1 _ _ _ _ _ hB2 (by have := hB2.len; simp [enc_len] at this; omega) _ H1.out.1.1 H1.out.1.2).mono ?_
  rintro e w3 ⟨A3, m3, c3, rfl, hc3, hm3, hown3, hb3⟩
  have hB3 : Byt w3 w3.heap.size A3 m3 (enc 69 1 ++ enc tos 1) := byt_own hown3 ((enc_bs _ _).app (enc_bs _ _))
  have B3 := B2.below hb3 B2.lt
  have W3 := W2.trans (hb3.mono W2.size)
  have d3 := B3.cell
  clear hown3 hb3 hm3 d2 B2 W2 hB2
  go_wp2_with fail
  refine (push2 _ _ _ _ _ hB3 (by have := hB3.len; simp [enc_len] at this; omega) _ hl0 hl1).mono ?_
  rintro e w4 ⟨A4, m4, c4, rfl, hc4, hm4, hown4, hb4⟩
  have hB4 : Byt w4 w4.heap.size A4 m4 (enc 69 1 ++ enc tos 1 ++ enc len 2) := byt_own hown4 (((enc_bs _ _).app (enc_bs _ _)).app (enc_bs _ _))
  have B4 := B3.below hb4 B3.lt
  have W4 := W3.trans (hb4.mono W3.size)
  have d4 := B4.cell
  clear hown4 hb4 hm4 d3 B3 W3 hB3
  go_wp2_with fail
  refine (push2 _ _ _ _ _ hB4 (by have := hB4.len; simp [enc_len] at this; omega) _ H1.out.2.2.2.1 H1.out.2.2.2.2).mono ?_
  rintro e w5 ⟨A5, m5, c5, rfl, hc5, hm5, hown5, hb5⟩
  have hB5 : Byt w5 w5.heap.size A5 m5 (enc 69 1 ++ enc tos 1 ++ enc len 2 ++ enc id 2) := byt_own hown5 ((((enc_bs _ _).app (enc_bs _ _)).app (enc_bs _ _)).app (enc_bs _ _))
  have B5 := B4.below hb5 B4.lt
  have W5 := W4.trans (hb5.mono W4.size)
  have d5 := B5.cell
  clear hown5 hb5 hm5 d4 B4 W4 hB4
  go_wp2_with fail
  refine (push2 _ _ _ _ _ hB5 (by have := hB5.len; simp [enc_len] at this; omega) _ (by omega) (by omega)).mono ?_
  rintro e w6 ⟨A6, m6, c6, rfl, hc6, hm6, hown6, hb6⟩
  have hB6 : Byt w6 w6.heap.size A6 m6 (enc 69 1 ++ enc tos 1 ++ enc len 2 ++ enc id 2 ++ enc 16384 2) := byt_own hown6 (((((enc_bs _ _).app (enc_bs _ _)).app (enc_bs _ _)).app (enc_bs _ _)).app (enc_bs _ _))
  have B6 := B5.below hb6 B5.lt
  have W6 := W5.trans (hb6.mono W5.size)
  have d6 := B6.cell
  clear hown6 hb6 hm6 d5 B5 W5 hB5
  go_wp2_with fail
  refine (push1 _ _ _ _ _ hB6 (by have := hB6.len; simp [enc_len] at this; omega) _ H1.out.2.1.1 H1.out.2.1.2).mono ?_
  rintro e w7 ⟨A7, m7, c7, rfl, hc7, hm7, hown7, hb7⟩
  have hB7 : Byt w7 w7.heap.size A7 m7 (enc 69 1 ++ enc tos 1 ++ enc len 2 ++ enc id 2 ++ enc 16384 2 ++ enc ttl 1) := byt_own hown7 ((((((enc_bs _ _).app (enc_bs _ _)).app (enc_bs _ _)).app (enc_bs _ _)).app (enc_bs _ _)).app (enc_bs _ _))
  have B7 := B6.below hb7 B6.lt
  have W7 := W6.trans (hb7.mono W6.size)
  have d7 := B7.cell
  clear hown7 hb7 hm7 d6 B6 W6 hB6
  go_wp2_with fail
  refine (push1 _ _ _ _ _ hB7 (by have := hB7.len; simp [enc_len] at this; omega) _ H1.out.2.2.1.1 H1.out.2.2.1.2).mono ?_
  rintro e w8 ⟨A8, m8, c8, rfl, hc8, hm8, hown8, hb8⟩
  have hB8 : Byt w8 w8.heap.size A8 m8 (enc 69 1 ++ enc tos 1 ++ enc len 2 ++ enc id 2 ++ enc 16384 2 ++ enc ttl 1 ++ enc proto 1) := byt_own hown8 (((((((enc_bs _ _).app (enc_bs _ _)).app (enc_bs _ _)).app (enc_bs _ _)).app (enc_bs _ _)).app (enc_bs _ _)).app (enc_bs _ _))
  have B8 := B7.below hb8 B7.lt
  have W8 := W7.trans (hb8.mono W7.size)
  have d8 := B8.cell
  clear hown8 hb8 hm8 d7 B7 W7 hB7
  go_wp2_with fail
  clear d8
  obtain ⟨L, hL⟩ : ∃ L, enc 69 1 ++ enc tos 1 ++ enc len 2 ++ enc id 2 ++ enc 16384 2 ++ enc ttl 1 ++ enc proto 1 = L := ⟨_, rfl⟩
  have hLn : L.length = 10 := by rw [← hL]; simp [enc_len]
  rw [hL] at hB8
  have HL := Lib.hid hL
  have hm8 : m8 = 10 := by rw [← hB8.len]; exact hLn
  have HLn := Lib.hid hLn
  clear hL hLn
  subst hm8
  have s5 : w8.cell? ⟨w.heap.size, 5, none⟩ = some (.int .u32 src) := B8.cell 5
  have s6 : w8.cell? ⟨w.heap.size, 6, none⟩ = some (.int .u32 dst) := B8.cell 6
  have x5 : IntKind.i64.wrap src = src := IntWalk.i64_in _ (by omega)
  have x6 : IntKind.i64.wrap dst = dst := IntWalk.i64_in _ (by omega)
  go_region_held3 (fun w' => w'.cell? ⟨w.heap.size, 5, none⟩ = some (.int .u32 src) ∧ w'.cell? ⟨w.heap.size, 6, none⟩ = some (.int .u32 dst))
    (first | go_keep | exact ⟨B9.cell 5, B9.cell 6⟩ | exact ⟨B10.cell 5, B10.cell 6⟩)
    (first
      | (go_at_call_of 51 src
         refine (push4 _ _ _ _ _ (Byt.none_ _ _) (by omega) _ hs0 hs1).mono ?_
         rintro e w9 ⟨A9, m9, c9, rfl, hc9, hm9, hown9, hb9⟩
         have hB9 : Byt w9 w9.heap.size A9 m9 (enc src 4) := byt_own (by simpa using hown9) (enc_bs _ _)
         have B9 := Blk.below B8.drew hb9 B8.lt
         have W9 := W8.drew.trans (hb9.mono W8.size)
         have hB9a := (Byt.below hB8.drew hb9).more hb9.size
         clear hown9 hb9 hm9)
      | (go_at_call_of 51 dst
         refine (push4 _ _ _ _ _ hB9 (by have := hB9.len; simp [enc_len] at this; omega) _ hd0 hd1).mono ?_
         rintro e w10 ⟨A10, m10, c10, rfl, hc10, hm10, hown10, hb10⟩
         have hB10 : Byt w10 w10.heap.size A10 m10 (enc src 4 ++ enc dst 4) := byt_own hown10 ((enc_bs _ _).app (enc_bs _ _))
         have B10 := Blk.below B9 hb10 B9.lt
         have W10 := W9.trans (hb10.mono W9.size)
         have hB10a := (Byt.below hB9a hb10).more hb10.size
         clear hown10 hb10 hm10))
  have hB8 := hB10a
  clear hB10a hB9a s5 s6 x5 x6
  obtain ⟨T, hT⟩ : ∃ T, enc src 4 ++ enc dst 4 = T := ⟨_, rfl⟩
  rw [hT] at hB10
  have hTn : m10 = 8 := by rw [← hB10.len, ← hT]; simp [enc_len]
  have HT := Lib.hid hT
  clear hT
  subst hTn
  go_wp2_with (first
    | (at_builtin
       refine wpList_app rfl (.const (.slice none 0 0)) (.tmp 42) _ rfl elU8 w10.heap.size none 0 0 [] rfl (World.ownsRow_nil _ _ _ _) _ _ 10 c8 (bv L) rfl hB8.1 (bv_one _) (by omega) (Nat.le_refl _) 10 (by omega) ?_
       intro Ax cx w11 hcx1 hcx2 hown11 V11 hg11
       clear hg11)
    | (at_builtin
       refine wpList_app rfl (.tmp 44) (.tmp 45) _ rfl elU8 w11.heap.size (some ⟨w11.heap.size, 0, none⟩) 2 2 (bv [0, 0]) rfl (World.ownsRow_lit w11 #[.int .u8 0, .int .u8 0] 2 (Nat.le_refl _) (by simp [maxLen]) rfl) _ _ 8 c10 (bv T) rfl (((hB10.below V11).alloc V11.size _).1) (bv_one _) (by omega) (by simp) 10 (by omega) ?_
       intro Ay cy w12 hcy1 hcy2 hown12 hb12 hg12
       have hb12' := ((Below.refl w11.heap.size w11).alloc (Nat.le_refl _) _).trans hb12
       have V12 := V11.trans (hb12'.mono V11.size)
       have hx12 : w12.ownsRow w10.heap.size 5 1 (.slice Ax 10 cx) 10 ([] ++ bv L) := own_below hown11 hb12'
       have hB13 : Byt w12 w12.heap.size Ay 10 ([0, 0] ++ T) := byt_own (by rw [bv_app]; exact hown12) (Bs.app (by intro z hz; simp at hz; omega) hB10.2)
       clear hb12 hg12 hown12 hown11 hb12')
    | (at_builtin
       refine wpList_app rfl (.tmp 43) (.tmp 46) _ rfl elU8 w10.heap.size Ax 10 cx _ rfl hx12 _ _ 10 cy (bv ([0, 0] ++ T)) rfl hB13.1 (bv_one _) (by omega) V12.size 20 (by omega) ?_
       intro Az cz w13 hcz1 hcz2 hown13 hb13 hg13
       have V13 := V12.trans hb13
       have W13 := W10.trans (V13.mono W10.size)
       have hS : Byt w13 w13.heap.size Az 20 (L ++ [0, 0] ++ T) := byt_own (by rw [List.append_assoc, bv_app]; exact hown13) ((hB8.2.app (by intro z hz; simp at hz; omega)).app hB10.2)
       have hL13 := (hB8.below V13).more V13.size
       have hT13 := (hB10.below V13).more V13.size
       clear hb13 hown13 hg13 hx12 hB13)
    | fail)
  have hsl : Hid (65535 - sm (L ++ [0, 0] ++ T) = sumF ⟨tos, id, ttl, proto, true, src, dst⟩ len) := by
    show _ = _
    rw [← HL.out, ← HT.out]; rfl
  refine (rchecksum_any _ _ _ _ _ _ hS (by omega)).mono ?_
  rintro e w' ⟨rfl, rfl⟩
  rw [hsl.out]
  obtain ⟨q0, q1⟩ := sumF_bd ⟨tos, id, ttl, proto, true, src, dst⟩ len
  obtain ⟨sv, hsv⟩ : ∃ sv, sumF ⟨tos, id, ttl, proto, true, src, dst⟩ len = sv := ⟨_, rfl⟩
  rw [hsv] at q0 q1 ⊢
  have HSV := Lib.hid hsv
  clear hsv
  go_wp2_with fail
  refine (push2 _ _ _ _ _ hL13 (by omega) _ q0 (by omega)).mono ?_
  rintro e w14 ⟨A14, m14, c14, rfl, hc14, hm14, hown14, hb14⟩
  have hT14 := (hT13.below hb14).more hb14.size
  have W14 := W13.trans (hb14.mono W13.size)
  have hown14 := own_base hown14 W13.size
  have h14 : m14 = 12 := by have := hown14.1; rw [bv_len, List.length_append, HLn.out, enc_len] at this; omega
  subst h14
  go_wp2_with (at_builtin
               refine wpList_app rfl (.tmp 51) (.tmp 52) _ rfl elU8 w.heap.size A14 12 c14 _ rfl hown14 _ _ 8 c10 (bv T) rfl hT14.1 (bv_one _) (by omega) W14.size 20 (by omega) ?_
               intro A15 c15 w15 hc15 hm15 hown15 hb15 hg15
               have W15 := W14.trans hb15)
  go_ret
  have hown16 : w15.ownsRow w.heap.size 5 1 (.slice A15 20 c15) 20 (bv (hdB ⟨tos, id, ttl, proto, true, src, dst⟩ len)) := by
    have e : hdB ⟨tos, id, ttl, proto, true, src, dst⟩ len = L ++ enc sv 2 ++ T := by
      unfold hdB
      rw [HSV.out, ← HL.out, ← HT.out]; rfl
    rw [e, bv_app]; exact hown15
  exact ⟨A15, 20, c15, rfl, hc15, hm15, hown16, W15⟩

set_option maxRecDepth 100000 in
set_option maxHeartbeats 400000 in
theorem header_false (tos id ttl proto src dst len : Int) (w : World) (h1 : (0 ≤ tos ∧ tos < 256) ∧ (0 ≤ ttl ∧ ttl < 256) ∧ (0 ≤ proto ∧ proto < 256) ∧ (0 ≤ id ∧ id < 65536)) (hs0 : 0 ≤ src) (hs1 : src < 4294967296) (hd0 : 0 ≤ dst) (hd1 : dst < 4294967296) (hl0 : 0 ≤ len) (hl1 : len < 65536) :
    Calls Try.prog 48 #[.agg #[.int .i64 tos, .int .i64 id, .int .i64 ttl, .int .i64 proto, .bool false, .int .u32 src, .int .u32 dst], .int .i64 len] w (Made (hdB ⟨tos, id, ttl, proto, false, src, dst⟩ len) w) := by
  have H1 := Lib.hid h1
  clear h1
  have B1 : Blk (w.alloc (.cells #[.int .i64 tos, .int .i64 id, .int .i64 ttl, .int .i64 proto, .bool false, .int .u32 src, .int .u32 dst] 46)) w.heap.size 46 #[.int .i64 tos, .int .i64 id, .int .i64 ttl, .int .i64 proto, .bool false, .int .u32 src, .int .u32 dst] := Blk.new _ _ _
  have W1 : Below w.heap.size w (w.alloc (.cells #[.int .i64 tos, .int .i64 id, .int .i64 ttl, .int .i64 proto, .bool false, .int .u32 src, .int .u32 dst] 46)) := (Below.refl _ _).alloc (Nat.le_refl _) _
  go_enter Try.func48, Try.ntmps48
  go_wp2_with fail
  refine (push1 _ _ _ _ _ (Byt.none_ _ _) (by omega) _ (by omega) (by omega)).mono ?_
  rintro e w2 ⟨A2, m2, c2, rfl, hc2, hm2, hown2, hb2⟩
  have hB2 : Byt w2 w2.heap.size A2 m2 (enc 69 1) := byt_own (by simpa using hown2) (enc_bs _ _)
  have B2 := B1.below hb2 B1.lt
  have W2 := W1.trans (hb2.mono W1.size)
  have d2 := B2.cell
  clear hown2 hb2 hm2 B1 W1
  go_wp2_with fail
  refine (push1 _ _ _ _ _ hB2 (by have := hB2.len; simp [enc_len] at this; omega) _ H1.out.1.1 H1.out.1.2).mono ?_
  rintro e w3 ⟨A3, m3, c3, rfl, hc3, hm3, hown3, hb3⟩
  have hB3 : Byt w3 w3.heap.size A3 m3 (enc 69 1 ++ enc tos 1) := byt_own hown3 ((enc_bs _ _).app (enc_bs _ _))
  have B3 := B2.below hb3 B2.lt
  have W3 := W2.trans (hb3.mono W2.size)
  have d3 := B3.cell
  clear hown3 hb3 hm3 d2 B2 W2 hB2
  go_wp2_with fail
  refine (push2 _ _ _ _ _ hB3 (by have := hB3.len; simp [enc_len] at this; omega) _ hl0 hl1).mono ?_
  rintro e w4 ⟨A4, m4, c4, rfl, hc4, hm4, hown4, hb4⟩
  have hB4 : Byt w4 w4.heap.size A4 m4 (enc 69 1 ++ enc tos 1 ++ enc len 2) := byt_own hown4 (((enc_bs _ _).app (enc_bs _ _)).app (enc_bs _ _))
  have B4 := B3.below hb4 B3.lt
  have W4 := W3.trans (hb4.mono W3.size)
  have d4 := B4.cell
  clear hown4 hb4 hm4 d3 B3 W3 hB3
  go_wp2_with fail
  refine (push2 _ _ _ _ _ hB4 (by have := hB4.len; simp [enc_len] at this; omega) _ H1.out.2.2.2.1 H1.out.2.2.2.2).mono ?_
  rintro e w5 ⟨A5, m5, c5, rfl, hc5, hm5, hown5, hb5⟩
  have hB5 : Byt w5 w5.heap.size A5 m5 (enc 69 1 ++ enc tos 1 ++ enc len 2 ++ enc id 2) := byt_own hown5 ((((enc_bs _ _).app (enc_bs _ _)).app (enc_bs _ _)).app (enc_bs _ _))
  have B5 := B4.below hb5 B4.lt
  have W5 := W4.trans (hb5.mono W4.size)
  have d5 := B5.cell
  clear hown5 hb5 hm5 d4 B4 W4 hB4
  go_wp2_with fail
  refine (push2 _ _ _ _ _ hB5 (by have := hB5.len; simp [enc_len] at this; omega) _ (by omega) (by omega)).mono ?_
  rintro e w6 ⟨A6, m6, c6, rfl, hc6, hm6, hown6, hb6⟩
  have hB6 : Byt w6 w6.heap.size A6 m6 (enc 69 1 ++ enc tos 1 ++ enc len 2 ++ enc id 2 ++ enc 0 2) := byt_own hown6 (((((enc_bs _ _).app (enc_bs _ _)).app (enc_bs _ _)).app (enc_bs _ _)).app (enc_bs _ _))
  have B6 := B5.below hb6 B5.lt
  have W6 := W5.trans (hb6.mono W5.size)
  have d6 := B6.cell
  clear hown6 hb6 hm6 d5 B5 W5 hB5
  go_wp2_with fail
  refine (push1 _ _ _ _ _ hB6 (by have := hB6.len; simp [enc_len] at this; omega) _ H1.out.2.1.1 H1.out.2.1.2).mono ?_
  rintro e w7 ⟨A7, m7, c7, rfl, hc7, hm7, hown7, hb7⟩
  have hB7 : Byt w7 w7.heap.size A7 m7 (enc 69 1 ++ enc tos 1 ++ enc len 2 ++ enc id 2 ++ enc 0 2 ++ enc ttl 1) := byt_own hown7 ((((((enc_bs _ _).app (enc_bs _ _)).app (enc_bs _ _)).app (enc_bs _ _)).app (enc_bs _ _)).app (enc_bs _ _))
  have B7 := B6.below hb7 B6.lt
  have W7 := W6.trans (hb7.mono W6.size)
  have d7 := B7.cell
  clear hown7 hb7 hm7 d6 B6 W6 hB6
  go_wp2_with fail
  refine (push1 _ _ _ _ _ hB7 (by have := hB7.len; simp [enc_len] at this; omega) _ H1.out.2.2.1.1 H1.out.2.2.1.2).mono ?_
  rintro e w8 ⟨A8, m8, c8, rfl, hc8, hm8, hown8, hb8⟩
  have hB8 : Byt w8 w8.heap.size A8 m8 (enc 69 1 ++ enc tos 1 ++ enc len 2 ++ enc id 2 ++ enc 0 2 ++ enc ttl 1 ++ enc proto 1) := byt_own hown8 (((((((enc_bs _ _).app (enc_bs _ _)).app (enc_bs _ _)).app (enc_bs _ _)).app (enc_bs _ _)).app (enc_bs _ _)).app (enc_bs _ _))
  have B8 := B7.below hb8 B7.lt
  have W8 := W7.trans (hb8.mono W7.size)
  have d8 := B8.cell
  clear hown8 hb8 hm8 d7 B7 W7 hB7
  go_wp2_with fail
  clear d8
  obtain ⟨L, hL⟩ : ∃ L, enc 69 1 ++ enc tos 1 ++ enc len 2 ++ enc id 2 ++ enc 0 2 ++ enc ttl 1 ++ enc proto 1 = L := ⟨_, rfl⟩
  have hLn : L.length = 10 := by rw [← hL]; simp [enc_len]
  rw [hL] at hB8
  have HL := Lib.hid hL
  have hm8 : m8 = 10 := by rw [← hB8.len]; exact hLn
  have HLn := Lib.hid hLn
  clear hL hLn
  subst hm8
  have s5 : w8.cell? ⟨w.heap.size, 5, none⟩ = some (.int .u32 src) := B8.cell 5
  have s6 : w8.cell? ⟨w.heap.size, 6, none⟩ = some (.int .u32 dst) := B8.cell 6
  have x5 : IntKind.i64.wrap src = src := IntWalk.i64_in _ (by omega)
  have x6 : IntKind.i64.wrap dst = dst := IntWalk.i64_in _ (by omega)
  go_region_held3 (fun w' => w'.cell? ⟨w.heap.size, 5, none⟩ = some (.int .u32 src) ∧ w'.cell? ⟨w.heap.size, 6, none⟩ = some (.int .u32 dst))
    (first | go_keep | exact ⟨B9.cell 5, B9.cell 6⟩ | exact ⟨B10.cell 5, B10.cell 6⟩)
    (first
      | (go_at_call_of 51 src
         refine (push4 _ _ _ _ _ (Byt.none_ _ _) (by omega) _ hs0 hs1).mono ?_
         rintro e w9 ⟨A9, m9, c9, rfl, hc9, hm9, hown9, hb9⟩
         have hB9 : Byt w9 w9.heap.size A9 m9 (enc src 4) := byt_own (by simpa using hown9) (enc_bs _ _)
         have B9 := Blk.below B8.drew hb9 B8.lt
         have W9 := W8.drew.trans (hb9.mono W8.size)
         have hB9a := (Byt.below hB8.drew hb9).more hb9.size
         clear hown9 hb9 hm9)
      | (go_at_call_of 51 dst
         refine (push4 _ _ _ _ _ hB9 (by have := hB9.len; simp [enc_len] at this; omega) _ hd0 hd1).mono ?_
         rintro e w10 ⟨A10, m10, c10, rfl, hc10, hm10, hown10, hb10⟩
         have hB10 : Byt w10 w10.heap.size A10 m10 (enc src 4 ++ enc dst 4) := byt_own hown10 ((enc_bs _ _).app (enc_bs _ _))
         have B10 := Blk.below B9 hb10 B9.lt
         have W10 := W9.trans (hb10.mono W9.size)
         have hB10a := (Byt.below hB9a hb10).more hb10.size
         clear hown10 hb10 hm10))
  have hB8 := hB10a
  clear hB10a hB9a s5 s6 x5 x6
  obtain ⟨T, hT⟩ : ∃ T, enc src 4 ++ enc dst 4 = T := ⟨_, rfl⟩
  rw [hT] at hB10
  have hTn : m10 = 8 := by rw [← hB10.len, ← hT]; simp [enc_len]
  have HT := Lib.hid hT
  clear hT
  subst hTn
  go_wp2_with (first
    | (at_builtin
       refine wpList_app rfl (.const (.slice none 0 0)) (.tmp 42) _ rfl elU8 w10.heap.size none 0 0 [] rfl (World.ownsRow_nil _ _ _ _) _ _ 10 c8 (bv L) rfl hB8.1 (bv_one _) (by omega) (Nat.le_refl _) 10 (by omega) ?_
       intro Ax cx w11 hcx1 hcx2 hown11 V11 hg11
       clear hg11)
    | (at_builtin
       refine wpList_app rfl (.tmp 44) (.tmp 45) _ rfl elU8 w11.heap.size (some ⟨w11.heap.size, 0, none⟩) 2 2 (bv [0, 0]) rfl (World.ownsRow_lit w11 #[.int .u8 0, .int .u8 0] 2 (Nat.le_refl _) (by simp [maxLen]) rfl) _ _ 8 c10 (bv T) rfl (((hB10.below V11).alloc V11.size _).1) (bv_one _) (by omega) (by simp) 10 (by omega) ?_
       intro Ay cy w12 hcy1 hcy2 hown12 hb12 hg12
       have hb12' := ((Below.refl w11.heap.size w11).alloc (Nat.le_refl _) _).trans hb12
       have V12 := V11.trans (hb12'.mono V11.size)
       have hx12 : w12.ownsRow w10.heap.size 5 1 (.slice Ax 10 cx) 10 ([] ++ bv L) := own_below hown11 hb12'
       have hB13 : Byt w12 w12.heap.size Ay 10 ([0, 0] ++ T) := byt_own (by rw [bv_app]; exact hown12) (Bs.app (by intro z hz; simp at hz; omega) hB10.2)
       clear hb12 hg12 hown12 hown11 hb12')
    | (at_builtin
       refine wpList_app rfl (.tmp 43) (.tmp 46) _ rfl elU8 w10.heap.size Ax 10 cx _ rfl hx12 _ _ 10 cy (bv ([0, 0] ++ T)) rfl hB13.1 (bv_one _) (by omega) V12.size 20 (by omega) ?_
       intro Az cz w13 hcz1 hcz2 hown13 hb13 hg13
       have V13 := V12.trans hb13
       have W13 := W10.trans (V13.mono W10.size)
       have hS : Byt w13 w13.heap.size Az 20 (L ++ [0, 0] ++ T) := byt_own (by rw [List.append_assoc, bv_app]; exact hown13) ((hB8.2.app (by intro z hz; simp at hz; omega)).app hB10.2)
       have hL13 := (hB8.below V13).more V13.size
       have hT13 := (hB10.below V13).more V13.size
       clear hb13 hown13 hg13 hx12 hB13)
    | fail)
  have hsl : Hid (65535 - sm (L ++ [0, 0] ++ T) = sumF ⟨tos, id, ttl, proto, false, src, dst⟩ len) := by
    show _ = _
    rw [← HL.out, ← HT.out]; rfl
  refine (rchecksum_any _ _ _ _ _ _ hS (by omega)).mono ?_
  rintro e w' ⟨rfl, rfl⟩
  rw [hsl.out]
  obtain ⟨q0, q1⟩ := sumF_bd ⟨tos, id, ttl, proto, false, src, dst⟩ len
  obtain ⟨sv, hsv⟩ : ∃ sv, sumF ⟨tos, id, ttl, proto, false, src, dst⟩ len = sv := ⟨_, rfl⟩
  rw [hsv] at q0 q1 ⊢
  have HSV := Lib.hid hsv
  clear hsv
  go_wp2_with fail
  refine (push2 _ _ _ _ _ hL13 (by omega) _ q0 (by omega)).mono ?_
  rintro e w14 ⟨A14, m14, c14, rfl, hc14, hm14, hown14, hb14⟩
  have hT14 := (hT13.below hb14).more hb14.size
  have W14 := W13.trans (hb14.mono W13.size)
  have hown14 := own_base hown14 W13.size
  have h14 : m14 = 12 := by have := hown14.1; rw [bv_len, List.length_append, HLn.out, enc_len] at this; omega
  subst h14
  go_wp2_with (at_builtin
               refine wpList_app rfl (.tmp 51) (.tmp 52) _ rfl elU8 w.heap.size A14 12 c14 _ rfl hown14 _ _ 8 c10 (bv T) rfl hT14.1 (bv_one _) (by omega) W14.size 20 (by omega) ?_
               intro A15 c15 w15 hc15 hm15 hown15 hb15 hg15
               have W15 := W14.trans hb15)
  go_ret
  have hown16 : w15.ownsRow w.heap.size 5 1 (.slice A15 20 c15) 20 (bv (hdB ⟨tos, id, ttl, proto, false, src, dst⟩ len)) := by
    have e : hdB ⟨tos, id, ttl, proto, false, src, dst⟩ len = L ++ enc sv 2 ++ T := by
      unfold hdB
      rw [HSV.out, ← HL.out, ← HT.out]; rfl
    rw [e, bv_app]; exact hown15
  exact ⟨A15, 20, c15, rfl, hc15, hm15, hown16, W15⟩

theorem header_any (tos id ttl proto : Int) (keep : Bool) (src dst len : Int) (w : World) (h1 : (0 ≤ tos ∧ tos < 256) ∧ (0 ≤ ttl ∧ ttl < 256) ∧ (0 ≤ proto ∧ proto < 256) ∧ (0 ≤ id ∧ id < 65536)) (hs0 : 0 ≤ src) (hs1 : src < 4294967296) (hd0 : 0 ≤ dst) (hd1 : dst < 4294967296) (hl0 : 0 ≤ len) (hl1 : len < 65536) :
    Calls Try.prog 48 #[.agg #[.int .i64 tos, .int .i64 id, .int .i64 ttl, .int .i64 proto, .bool keep, .int .u32 src, .int .u32 dst], .int .i64 len] w (Made (hdB ⟨tos, id, ttl, proto, keep, src, dst⟩ len) w) := by
  cases keep
  · exact header_false tos id ttl proto src dst len w h1 hs0 hs1 hd0 hd1 hl0 hl1
  · exact header_true tos id ttl proto src dst len w h1 hs0 hs1 hd0 hd1 hl0 hl1
end Go.Proofs.Ytllaojnnackhhaa
